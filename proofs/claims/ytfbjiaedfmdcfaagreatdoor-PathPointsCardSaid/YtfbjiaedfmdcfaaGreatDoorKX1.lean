/-
  The law PathPoints walked.
-/
import Derived.Test.YtfbjiaedfmdcfaaGreatDoorKY43
import Derived.Test.YtfbjiaedfmdcfaaGreatDoorKX0
import Derived.Test.YtfbjiaedfmdcfaaGreatDoorKY46
namespace Go.Proofs.YtfbjiaedfmdcfaaGreatDoor.L15
open Go.RowKit Go.Shelf Go.Proofs

theorem neq_spot (s : Spot) (w : World) : (binOp .neq 60 s.v s.v).run Tryz.prog w = .ok (.bool false) w := by
  have h := eq_spot s w
  unfold Spot.v at h ⊢
  simp only [binOp]
  simp [h]

set_option maxRecDepth 100000 in
set_option maxHeartbeats 8000000 in
theorem points_walk (v1 : Value) (l : List Op) (at_ : St) (p : ByteArray) (fol : Bool) (w : World) (hs1 : SlAt w 13 Op.cells v1 l) (hn1 : ∀ o ∈ l, o.Small) (_hp : p.size ≤ 140737488351232) :
    Calls Tryz.prog 5 #[v1, at_.v, .string p, .bool fol] w fun y w' => y = .returned (.bool true) ∧ Below w.heap.size w w' := by
  obtain ⟨W0, hW0⟩ : ∃ W0, W0 = w.alloc (.cells #[.int .i64 at_.t, .int .i64 at_.r] 26) := ⟨_, rfl⟩
  have hb0 : Below w.heap.size w W0 := by rw [hW0]; exact (Below.refl _ w).alloc (Nat.le_refl _) _
  have hz0 : W0.heap.size = w.heap.size + 1 := by rw [hW0]; simp
  have HX : Hid (∀ W, Below W0.heap.size W0 W → W.heap[w.heap.size]? = some (.cells #[.int .i64 at_.t, .int .i64 at_.r] 26)) := Lib.hid fun W hW => (hW.block w.heap.size (by omega)).trans (by rw [hW0]; exact World.alloc_heap_new w _)
  have HEND : Hid (∀ W, Below W0.heap.size W0 W → Below w.heap.size w W) := Lib.hid fun W hW => hb0.trans (hW.mono (by omega))
  have HSH := Lib.hid (fun W => shownP_any W)
  have HFW := Lib.hid (fun W (hW : Below W0.heap.size W0 W) => fewP_any v1 l W (hs1.below (hb0.trans (hW.mono (by omega)))))
  have HOF := Lib.hid (fun (hl : l.length ≤ 1000) W (hW : Below W0.heap.size W0 W) => of_any v1 l W (hs1.below (hb0.trans (hW.mono (by omega)))) hn1 hl)
  obtain ⟨a1, c1, rfl⟩ := hs1.len
  clear hs1 hn1 hb0
  have HTL : Hid (p.toList = p.data.toList) := Lib.hid (ByteArray.toList_eq p)
  unfold St.v
  cases hf : decide (l.length ≤ 60) with
  | false =>
    rw [hf] at HFW
    clear hf
    go_enter Tryz.func5, Tryz.ntmps5
    go_wp2_with fail
    rw [← hW0]
    refine (HSH.out _).mono ?_
    rintro e w1 ⟨rfl, hb1⟩
    have HB1 := Lib.hid hb1
    clear hb1
    go_wp2_with (go_at_call 29; refine (HFW.out _ HB1.out).mono ?_; rintro y w' ⟨rfl, rfl⟩)
    go_ret
    exact ⟨rfl, HEND.out _ HB1.out⟩
  | true =>
    rw [hf] at HFW
    by_cases h60 : 60 < p.size
    · have h60i : (60 : Int) < (p.size : Int) := by omega
      clear hf
      go_enter Tryz.func5, Tryz.ntmps5
      go_wp2_with fail
      rw [← hW0]
      refine (HSH.out _).mono ?_
      rintro e w1 ⟨rfl, hb1⟩
      have HB1 := Lib.hid hb1
      clear hb1
      go_wp2_with (go_at_call 29; refine (HFW.out _ HB1.out).mono ?_; rintro y w' ⟨rfl, rfl⟩)
      go_ret
      exact ⟨rfl, HEND.out _ HB1.out⟩
    · have h60i : ¬ (60 : Int) < (p.size : Int) := by omega
      by_cases h0 : p.size = 0
      · have he : p.toList = [] := by rw [HTL.out]; exact List.eq_nil_of_length_eq_zero (by rw [← size_data]; exact h0)
        clear hf
        go_enter Tryz.func5, Tryz.ntmps5
        go_wp2_with fail
        rw [← hW0]
        refine (HSH.out _).mono ?_
        rintro e w1 ⟨rfl, hb1⟩
        have HB1 := Lib.hid hb1
        clear hb1
        go_wp2_with (go_at_call 29; refine (HFW.out _ HB1.out).mono ?_; rintro y w' ⟨rfl, rfl⟩)
        go_ret
        exact ⟨rfl, HEND.out _ HB1.out⟩
      · have he : ¬ p.toList = [] := by rw [HTL.out]; intro h; exact h0 (by rw [size_data, h]; rfl)
        have he' : p.toList.isEmpty = false := by rw [Bool.eq_false_iff]; intro h; exact he (List.isEmpty_iff.1 h)
        have HL1 : Hid (l.length ≤ 1000) := Lib.hid (by have := of_decide_eq_true hf; omega)
        have hFI : (ofOps l).Fine := ran_fine _
        have hT := ofOps_thin l
        clear hf
        go_enter Tryz.func5, Tryz.ntmps5
        go_wp2_with fail
        rw [← hW0]
        refine (HSH.out _).mono ?_
        rintro e w1 ⟨rfl, hb1⟩
        have HB1 := Lib.hid hb1
        clear hb1
        go_wp2_with (go_at_call 29; refine (HFW.out _ HB1.out).mono ?_; rintro y w' ⟨rfl, rfl⟩)
        refine (HOF.out HL1.out _ HB1.out).mono ?_
        rintro e w2 ⟨v2, rfl, ⟨gb, mI, mE, rfl, hG, h1, h2, h3⟩, hb2⟩
        have HB2 := Lib.hid (HB1.out.trans (hb2.mono HB1.out.size))
        have hok := hFI.ok
        have hR := hG.reads hok (by have := hok.few; omega)
        clear h1 h2 h3 hb2 hG HOF
        generalize ofOps l = g at *
        have hml := moreL_len p.data.toList
        rw [← size_data] at hml
        have hms : (moreText p).size = (moreL p.data.toList).length + 2 := by unfold moreText; rw [bsOf_size, List.length_append]; rfl
        have HGT := Lib.hid (fun id W (hW : Below w2.heap.size w2 W) => hR.get id _ _ W rfl rfl hW)
        have HLK := Lib.hid (fun id W (hW : Below w2.heap.size w2 W) => hR.look id _ _ W rfl rfl hW)
        have HF1 := Lib.hid (fun W (hW : Below w2.heap.size w2 W) => find_any gb g at_ p fol W (hR.below hW) hT (by omega))
        have HF2 := Lib.hid (fun W (hW : Below w2.heap.size w2 W) => find_any gb g at_ (moreText p) fol W (hR.below hW) hT (by omega))
        have hin := Gr.findP_in hok at_ p fol
        have hmore := fun h2 => g.findP_more h0 (by omega : p.size ≤ 60) h2 at_ fol
        rcases hfa : g.findP at_ p fol with ⟨a, e⟩
        rcases hfb : g.findP at_ (moreText p) fol with ⟨b, f⟩
        rw [hfa] at HF1 hin hmore
        rw [hfb] at HF2 hmore
        dsimp only at hin
        have HINN := Lib.hid hin
        have HMORE := Lib.hid hmore
        have HMS := Lib.hid hms
        simp only [Spot.v, St.v] at HF1 HF2
        clear hR hT hok hfa hfb hFI hin hmore hms
        go_wp2
        go_loopg [11, 12] p.size (fun gg s11 s12 wr => ∃ i : Nat, s12 = .int .i64 i ∧ s11 = .string (bsOf (moreL (p.data.toList.take i))) ∧ i ≤ p.size ∧ p.size - i ≤ gg ∧ Aside (wr = w2))
        case atStart => exact ⟨0, rfl, rfl, Nat.zero_le _, Nat.le_refl _, (show Aside _ from rfl)⟩
        case round =>
          obtain ⟨i, rfl, rfl, hil, hig, hw⟩ := hrel
          have HWR := Lib.hid hw.out
          clear hw
          by_cases hlt : i < p.size
          · have hlti : (i : Int) < (p.size : Int) := by omega
            have hi0 : (0 : Int) ≤ (i : Int) := by omega
            have hwi : IntKind.i64.wrap ((i : Int) + 1) = (i : Int) + 1 := wrapNat (i + 1) (by omega)
            have hltd : i < p.data.toList.length := by rw [← size_data]; exact hlt
            have hstep := more_take hltd
            have hsz : (bsOf (moreL (p.data.toList.take i))).size ≤ 180 := by
              rw [bsOf_size]
              have h1 := moreL_len (p.data.toList.take i)
              rw [List.length_take] at h1
              omega
            generalize hM : bsOf (moreL (p.data.toList.take i)) = M at *
            have h9a : ¬ 9223372036854775807 < M.size + 3 := by omega
            have h9b : ¬ 9223372036854775807 < M.size + 1 := by omega
            have hgp : p.data.toList[i] = p[i] := by simp [ByteArray.getElem_eq_getElem_data]
            rw [hgp] at hstep
            have hex : p.extract i (i + 1) = ⟨#[p[i]]⟩ := by
              apply ByteArray.ext
              rw [ByteArray.data_extract]
              have hd : i < p.data.size := hlt
              apply Array.ext
              · simp only [Array.size_extract, List.size_toArray, List.length_cons, List.length_nil]; omega
              · intro j h1 h2
                obtain rfl : j = 0 := by simp only [List.size_toArray, List.length_cons, List.length_nil] at h2; omega
                simp [ByteArray.getElem_eq_getElem_data]
            have HSTEP := Lib.hid hstep
            have HEX := Lib.hid hex
            clear hstep hgp hex hM
            go_wp2
            · rename_i hb
              have h47 : p[i] = 47 := by
                have : ((p[i].toNat : Int)) = 47 := by simpa using hb
                exact UInt8.toNat_inj.1 (by simpa using (by omega : p[i].toNat = 47))
              go_roundg (p.size - (i + 1))
              case measure => omega
              case rel => exact ⟨i + 1, by first | rfl | go_num, by rw [HSTEP.out, if_pos h47], by omega, Nat.le_refl _, (show Aside _ from HWR.out)⟩
            · rename_i hb
              have h47 : ¬ p[i] = 47 := by
                intro e
                rw [e] at hb
                simp at hb
              go_roundg (p.size - (i + 1))
              case measure => omega
              case rel => exact ⟨i + 1, by first | rfl | go_num, by rw [HSTEP.out, if_neg h47, HEX.out], by omega, Nat.le_refl _, (show Aside _ from HWR.out)⟩
          · have hlti : ¬ (i : Int) < (p.size : Int) := by omega
            have hti : p.data.toList.take i = p.data.toList := List.take_of_length_le (by rw [← size_data]; omega)
            rw [hti]
            have hM2 : (bsOf (moreL p.data.toList)).size + 2 = (moreText p).size := by rw [HMS.out, bsOf_size]
            have hEND := more_end p
            have hms := HMS.out
            generalize bsOf (moreL p.data.toList) = M at *
            have h9a : ¬ 9223372036854775807 < M.size + 2 := by omega
            rw [← hEND] at HF2
            obtain rfl := HWR.out
            have hx := HX.out _ HB2.out
            have x0 := cell_atW hx 0 _ rfl
            have x1 := cell_atW hx 1 _ rfl
            have hl0 := (Array.getElem?_eq_some_iff.1 hx).1
            clear hx hti hEND
            go_wp2_with fail
            refine (HF1.out _ (Below.refl _ _)).mono ?_
            rintro y w3 ⟨rfl, hb3⟩
            have HN3 := Lib.hid hb3
            have HB3 := Lib.hid (HB2.out.trans (hb3.mono HB2.out.size))
            have hx := HX.out _ HB3.out
            have x0 := cell_atW hx 0 _ rfl
            have x1 := cell_atW hx 1 _ rfl
            have hl0 := (Array.getElem?_eq_some_iff.1 hx).1
            clear hb3 hx
            go_wp2_with fail
            refine (HF2.out _ (HN3.out.alloc HN3.out.size _)).mono ?_
            rintro y w4 ⟨rfl, hb4⟩
            have ha4 := keepBox hb4
            have HN4 := Lib.hid ((HN3.out.alloc HN3.out.size _).trans (hb4.mono (by have := HN3.out.size; simp only [World.size_alloc]; omega)))
            have HB4 := Lib.hid ((HB3.out.alloc HB3.out.size _).trans (hb4.mono (by have := HB3.out.size; simp only [World.size_alloc]; omega)))
            have HA4 := Lib.hid ha4
            have a0 := cell_atW ha4 0 _ rfl
            have a1 := cell_atW ha4 1 _ rfl
            have a2 := cell_atW ha4 2 _ rfl
            have a3 := cell_atW ha4 3 _ rfl
            have a4 := cell_atW ha4 4 _ rfl
            have a5 := cell_atW ha4 5 _ rfl
            have hl4 := (Array.getElem?_eq_some_iff.1 ha4).1
            clear hb4 ha4 x0 x1
            have hes := eql_spot spot0
            have hns := neq_spot a
            unfold Spot.v at hes hns
            unfold spot0 at hes
            dsimp only at hes
            by_cases hlen : M.size + 2 ≤ 128
            · have hleni : (M.size : Int) + 2 ≤ 128 := by omega
              have hwm : IntKind.i64.wrap ((M.size : Int) + 2) = (M.size : Int) + 2 := wrapNat (M.size + 2) (by omega)
              have hbf := HMORE.out (by omega)
              cases hbf
              by_cases he1 : e = 0
              · subst he1
                obtain ⟨hsi, hfo⟩ := HINN.out.2 rfl
                have HL1 := Lib.hid (fun W hW => HLK.out ⟨a.at_, a.name⟩ W hW)
                have HG1 := Lib.hid (fun W hW => HGT.out a.ino W hW)
                have F1 := hsi.name
                have F2 := hsi.there
                generalize g.got a.ino = i at *
                generalize (g.get a.ino).isSome = gi at HG1 F2
                generalize (g.look ⟨a.at_, a.name⟩).getD ⟨0, 0⟩ = id at HL1 F1
                generalize (g.look ⟨a.at_, a.name⟩).isSome = is at HL1 F1
                clear hsi
                go_wp2_with fail
                refine (HL1.out _ (HN4.out.alloc HN4.out.size _)).mono ?_
                rintro y w5 ⟨rfl, hb5⟩
                have HN5 := Lib.hid ((HN4.out.alloc HN4.out.size _).trans (hb5.mono (by have := HN4.out.size; simp only [World.size_alloc]; omega)))
                have HB5 := Lib.hid ((HB4.out.alloc HB4.out.size _).trans (hb5.mono (by have := HB4.out.size; simp only [World.size_alloc]; omega)))
                have ha5 := keepOn (keepAl HA4.out _) hb5
                have HA5 := Lib.hid ha5
                have c3 := cell_atW ha5 3 _ rfl
                have c4 := cell_atW ha5 4 _ rfl
                have hl5 := (Array.getElem?_eq_some_iff.1 ha5).1
                clear hb5 ha5 a0 a1 a2 a3 a4 a5 hl4
                go_wp2_with fail
                refine (HG1.out _ (HN5.out.alloc HN5.out.size _)).mono ?_
                rintro y w6 ⟨rfl, hb6⟩
                have HB6 := Lib.hid ((HB5.out.alloc HB5.out.size _).trans (hb6.mono (by have := HB5.out.size; simp only [World.size_alloc]; omega)))
                have ha6 := keepOn (keepAl HA5.out _) hb6
                have hd6 := keepBox hb6
                have a0 := cell_atW ha6 0 _ rfl
                have a1 := cell_atW ha6 1 _ rfl
                have a2 := cell_atW ha6 2 _ rfl
                have a3 := cell_atW ha6 3 _ rfl
                have a4 := cell_atW ha6 4 _ rfl
                have a5 := cell_atW ha6 5 _ rfl
                have d0 := cell_atW hd6 0 _ rfl
                have d1 := cell_atW hd6 1 _ rfl
                have hl6 := (Array.getElem?_eq_some_iff.1 ha6).1
                have hl7 := (Array.getElem?_eq_some_iff.1 hd6).1
                clear hb6 ha6 hd6 c3 c4 hl5
                have HNL : Hid (a.name.toList = a.name.data.toList) := Lib.hid (ByteArray.toList_eq a.name)
                obtain ⟨aat, an, ai, ath⟩ := a
                dsimp only at *
                have heq : ∀ w, (binOp .eql 26 (.agg #[.int .i64 ai.t, .int .i64 ai.r]) (.agg #[.int .i64 ai.t, .int .i64 ai.r])).run Tryz.prog w = .ok (.bool true) w := fun w => by rw [eql_st]; simp
                by_cases hnm : an.data.toList = []
                · have hn1 : an.toList = [] := by rw [HNL.out]; exact hnm
                  clear F1 hnm
                  cases ath with
                  | false =>
                    go_wp2
                    all_goals go_ret
                    all_goals exact ⟨rfl, HEND.out _ (HB6.out.alloc HB6.out.size _)⟩
                  | true =>
                    obtain rfl := F2 rfl
                    cases fol with
                    | false =>
                      go_wp2
                      go_ret
                      exact ⟨rfl, HEND.out _ (HB6.out.alloc HB6.out.size _)⟩
                    | true =>
                      have hk := hfo rfl rfl
                      have hkb : (i.kind != 3) = true := by simpa using hk
                      go_wp2
                      go_ret
                      exact ⟨rfl, HEND.out _ (HB6.out.alloc HB6.out.size _)⟩
                · obtain ⟨rfl, rfl⟩ := F1 hnm
                  have hn1 : ¬ an.toList = [] := by rw [HNL.out]; exact hnm
                  have hn2 : an.toList.isEmpty = false := by rw [Bool.eq_false_iff]; intro h; exact hn1 (List.isEmpty_iff.1 h)
                  clear hnm
                  cases is with
                  | false =>
                    go_wp2
                    all_goals go_ret
                    all_goals exact ⟨rfl, HEND.out _ (HB6.out.alloc HB6.out.size _)⟩
                  | true =>
                    obtain rfl := F2 rfl
                    cases fol with
                    | false =>
                      go_wp2
                      go_ret
                      exact ⟨rfl, HEND.out _ (HB6.out.alloc HB6.out.size _)⟩
                    | true =>
                      have hk := hfo rfl rfl
                      have hkb : (i.kind != 3) = true := by simpa using hk
                      go_wp2
                      go_ret
                      exact ⟨rfl, HEND.out _ (HB6.out.alloc HB6.out.size _)⟩
              · have heb : (e == 0) = false := by simpa using he1
                have hec : (e != 0) = true := by simpa using he1
                have hsp := HINN.out.1 he1
                unfold spot0 at hsp
                clear HINN HMORE
                obtain ⟨⟨aa, ab⟩, an, ⟨ac, ad⟩, ah⟩ := a
                cases hsp
                dsimp only at *
                go_wp2
                go_ret
                exact ⟨rfl, HEND.out _ (HB4.out.alloc HB4.out.size _)⟩
            · have hleni : ¬ (M.size : Int) + 2 ≤ 128 := by omega
              have hwm : IntKind.i64.wrap ((M.size : Int) + 2) = (M.size : Int) + 2 := wrapNat (M.size + 2) (by omega)
              by_cases he1 : e = 0
              · subst he1
                obtain ⟨hsi, hfo⟩ := HINN.out.2 rfl
                have HL1 := Lib.hid (fun W hW => HLK.out ⟨a.at_, a.name⟩ W hW)
                have HG1 := Lib.hid (fun W hW => HGT.out a.ino W hW)
                have F1 := hsi.name
                have F2 := hsi.there
                generalize g.got a.ino = i at *
                generalize (g.get a.ino).isSome = gi at HG1 F2
                generalize (g.look ⟨a.at_, a.name⟩).getD ⟨0, 0⟩ = id at HL1 F1
                generalize (g.look ⟨a.at_, a.name⟩).isSome = is at HL1 F1
                clear hsi
                go_wp2_with fail
                refine (HL1.out _ (HN4.out.alloc HN4.out.size _)).mono ?_
                rintro y w5 ⟨rfl, hb5⟩
                have HN5 := Lib.hid ((HN4.out.alloc HN4.out.size _).trans (hb5.mono (by have := HN4.out.size; simp only [World.size_alloc]; omega)))
                have HB5 := Lib.hid ((HB4.out.alloc HB4.out.size _).trans (hb5.mono (by have := HB4.out.size; simp only [World.size_alloc]; omega)))
                have ha5 := keepOn (keepAl HA4.out _) hb5
                have HA5 := Lib.hid ha5
                have c3 := cell_atW ha5 3 _ rfl
                have c4 := cell_atW ha5 4 _ rfl
                have hl5 := (Array.getElem?_eq_some_iff.1 ha5).1
                clear hb5 ha5 a0 a1 a2 a3 a4 a5 hl4
                go_wp2_with fail
                refine (HG1.out _ (HN5.out.alloc HN5.out.size _)).mono ?_
                rintro y w6 ⟨rfl, hb6⟩
                have HB6 := Lib.hid ((HB5.out.alloc HB5.out.size _).trans (hb6.mono (by have := HB5.out.size; simp only [World.size_alloc]; omega)))
                have ha6 := keepOn (keepAl HA5.out _) hb6
                have hd6 := keepBox hb6
                have a0 := cell_atW ha6 0 _ rfl
                have a1 := cell_atW ha6 1 _ rfl
                have a2 := cell_atW ha6 2 _ rfl
                have a3 := cell_atW ha6 3 _ rfl
                have a4 := cell_atW ha6 4 _ rfl
                have a5 := cell_atW ha6 5 _ rfl
                have d0 := cell_atW hd6 0 _ rfl
                have d1 := cell_atW hd6 1 _ rfl
                have hl6 := (Array.getElem?_eq_some_iff.1 ha6).1
                have hl7 := (Array.getElem?_eq_some_iff.1 hd6).1
                clear hb6 ha6 hd6 c3 c4 hl5
                have HNL : Hid (a.name.toList = a.name.data.toList) := Lib.hid (ByteArray.toList_eq a.name)
                obtain ⟨aat, an, ai, ath⟩ := a
                dsimp only at *
                have heq : ∀ w, (binOp .eql 26 (.agg #[.int .i64 ai.t, .int .i64 ai.r]) (.agg #[.int .i64 ai.t, .int .i64 ai.r])).run Tryz.prog w = .ok (.bool true) w := fun w => by rw [eql_st]; simp
                by_cases hnm : an.data.toList = []
                · have hn1 : an.toList = [] := by rw [HNL.out]; exact hnm
                  clear F1 hnm
                  cases ath with
                  | false =>
                    go_wp2
                    all_goals go_ret
                    all_goals exact ⟨rfl, HEND.out _ (HB6.out.alloc HB6.out.size _)⟩
                  | true =>
                    obtain rfl := F2 rfl
                    cases fol with
                    | false =>
                      go_wp2
                      go_ret
                      exact ⟨rfl, HEND.out _ (HB6.out.alloc HB6.out.size _)⟩
                    | true =>
                      have hk := hfo rfl rfl
                      have hkb : (i.kind != 3) = true := by simpa using hk
                      go_wp2
                      go_ret
                      exact ⟨rfl, HEND.out _ (HB6.out.alloc HB6.out.size _)⟩
                · obtain ⟨rfl, rfl⟩ := F1 hnm
                  have hn1 : ¬ an.toList = [] := by rw [HNL.out]; exact hnm
                  have hn2 : an.toList.isEmpty = false := by rw [Bool.eq_false_iff]; intro h; exact hn1 (List.isEmpty_iff.1 h)
                  clear hnm
                  cases is with
                  | false =>
                    go_wp2
                    all_goals go_ret
                    all_goals exact ⟨rfl, HEND.out _ (HB6.out.alloc HB6.out.size _)⟩
                  | true =>
                    obtain rfl := F2 rfl
                    cases fol with
                    | false =>
                      go_wp2
                      go_ret
                      exact ⟨rfl, HEND.out _ (HB6.out.alloc HB6.out.size _)⟩
                    | true =>
                      have hk := hfo rfl rfl
                      have hkb : (i.kind != 3) = true := by simpa using hk
                      go_wp2
                      go_ret
                      exact ⟨rfl, HEND.out _ (HB6.out.alloc HB6.out.size _)⟩
              · have heb : (e == 0) = false := by simpa using he1
                have hec : (e != 0) = true := by simpa using he1
                have hsp := HINN.out.1 he1
                unfold spot0 at hsp
                clear HINN HMORE
                obtain ⟨⟨aa, ab⟩, an, ⟨ac, ad⟩, ah⟩ := a
                cases hsp
                dsimp only at *
                go_wp2
                go_ret
                exact ⟨rfl, HEND.out _ (HB4.out.alloc HB4.out.size _)⟩
end Go.Proofs.YtfbjiaedfmdcfaaGreatDoor.L15
