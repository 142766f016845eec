/-
  thimblelaw13.FoldIdle: operations that tell an error where they stand change nothing; no condition but the texts' reach.
-/
import Derived.Test.YtlokljaeknmdpaaGreatQL13
import Derived.Test.YtlokljaeknmdpaaGreatKFold
namespace Go.Proofs.YtlokljaeknmdpaaGreat.L13
open Go.RowKit Go.Shelf Go.Proofs

set_option maxRecDepth 100000 in
set_option maxHeartbeats 8000000 in
theorem idle_walk (v1 : Value) (l : List Op) (w : World) (hs1 : SlAt w 13 Op.cells v1 l) (hn1 : ∀ o ∈ l, o.Small) :
    Calls Tryz.prog 8 #[v1] w fun y w' => y = .returned (.bool true) ∧ Below w.heap.size w w' := by
  have HF1 := Lib.hid (fun W (hW : Below w.heap.size w W) => few_any v1 l W (hs1.below hW))
  have HSO := Lib.hid (fun (hl : l.length ≤ 1000) W (hW : Below w.heap.size w W) => sort_any v1 l W (hs1.below hW) hn1 hl)
  have HOF := Lib.hid (fun (hl : l.length ≤ 1000) W (hW : Below w.heap.size w W) => of_any v1 l W (hs1.below hW) hn1 hl)
  have HNS : Hid (∀ o ∈ sortOps l, o.Small) := Lib.hid fun o ho => hn1 o (sort_sub ho)
  have HB0 : Hid (Below w.heap.size w w) := Lib.hid (Below.refl _ _)
  obtain ⟨a1, c1, rfl⟩ := hs1.len
  clear hs1 hn1
  cases hf1 : decide (l.length ≤ 60) with
  | false =>
    rw [hf1] at HF1
    clear hf1
    go_enter Tryz.func8, Tryz.ntmps8
    go_wp2_with fail
    refine (shown_any _).mono ?_
    rintro e w1 ⟨rfl, hb1⟩
    obtain ⟨hc1, hf1⟩ := bcell hb1
    have hs1 := hb1.size
    try simp only [World.size_alloc] at hs1
    try simp only [size_setCell'] at hs1
    try have le1_0 : w.heap.size ≤ w1.heap.size := (by omega)
    try have lt1_0 : w.heap.size < w1.heap.size := (by omega)
    have HB1 : Hid (Below w.heap.size w w1) := Lib.hid (Below.trans (by first | exact HB0.out | exact HB0.out.alloc HB0.out.size _ | exact (HB0.out.alloc HB0.out.size _).alloc (le_al HB0.out.size) _ | exact ((HB0.out.alloc HB0.out.size _).alloc (le_al HB0.out.size) _).alloc (le_al (le_al HB0.out.size)) _) (hb1.mono (by (try simp only [World.size_alloc]); (try simp only [size_setCell']); omega)))
    have HN1 := Lib.hid hb1
    clear hb1 hs1
    go_wp2_with (go_at_call 35; refine (HF1.out _ HB1.out).mono ?_; rintro y w' ⟨rfl, rfl⟩)
    go_ret
    exact ⟨rfl, HB1.out⟩
  | true =>
    rw [hf1] at HF1
    obtain ⟨i0, hinf, hz0, hz1, hz2⟩ := info_parts infoOp
    have HL1 : Hid (l.length ≤ 1000) := Lib.hid (by have := of_decide_eq_true hf1; omega)
    have hLX : (sortOps l).length ≤ 1000 := Nat.le_trans (sort_len l) HL1.out
    have HLAW : Hid (ofOps (doneOf Gr.new (sortOps l)) = ofOps l ∧ ran (sortOps l) = ofOps l) := Lib.hid ⟨idle_law l, rfl⟩
    clear hf1
    generalize hL : sortOps l = L at *
    clear hL
    go_enter Tryz.func8, Tryz.ntmps8
    go_wp2_with fail
    refine (shown_any _).mono ?_
    rintro e w1 ⟨rfl, hb1⟩
    obtain ⟨hc1, hf1⟩ := bcell hb1
    have hs1 := hb1.size
    try simp only [World.size_alloc] at hs1
    try simp only [size_setCell'] at hs1
    try have le1_0 : w.heap.size ≤ w1.heap.size := (by omega)
    try have lt1_0 : w.heap.size < w1.heap.size := (by omega)
    have HB1 : Hid (Below w.heap.size w w1) := Lib.hid (Below.trans (by first | exact HB0.out | exact HB0.out.alloc HB0.out.size _ | exact (HB0.out.alloc HB0.out.size _).alloc (le_al HB0.out.size) _ | exact ((HB0.out.alloc HB0.out.size _).alloc (le_al HB0.out.size) _).alloc (le_al (le_al HB0.out.size)) _) (hb1.mono (by (try simp only [World.size_alloc]); (try simp only [size_setCell']); omega)))
    have HN1 := Lib.hid hb1
    clear hb1 hs1
    go_wp2_with (go_at_call 35; refine (HF1.out _ HB1.out).mono ?_; rintro y w' ⟨rfl, rfl⟩)
    go_wp2_with fail
    refine (HSO.out HL1.out _ (by first | exact HB1.out | exact HB1.out.alloc HB1.out.size _ | exact (HB1.out.alloc HB1.out.size _).alloc (le_al HB1.out.size) _ | exact ((HB1.out.alloc HB1.out.size _).alloc (le_al HB1.out.size) _).alloc (le_al (le_al HB1.out.size)) _ | exact HB0.out | exact HB0.out.alloc HB0.out.size _ | exact (HB0.out.alloc HB0.out.size _).alloc (le_al HB0.out.size) _ | exact ((HB0.out.alloc HB0.out.size _).alloc (le_al HB0.out.size) _).alloc (le_al (le_al HB0.out.size)) _)).mono ?_
    rintro e w2 ⟨v2, rfl, hr2, hb2⟩
    obtain ⟨hc2, hf2⟩ := bcell hb2
    have hs2 := hb2.size
    try simp only [World.size_alloc] at hs2
    try simp only [size_setCell'] at hs2
    try have le2_0 : w.heap.size ≤ w2.heap.size := (by omega)
    try have lt2_0 : w.heap.size < w2.heap.size := (by omega)
    try have le2_1 : w1.heap.size ≤ w2.heap.size := (by omega)
    try have lt2_1 : w1.heap.size < w2.heap.size := (by omega)
    have HB2 : Hid (Below w.heap.size w w2) := Lib.hid (Below.trans (by first | exact HB1.out | exact HB1.out.alloc HB1.out.size _ | exact (HB1.out.alloc HB1.out.size _).alloc (le_al HB1.out.size) _ | exact ((HB1.out.alloc HB1.out.size _).alloc (le_al HB1.out.size) _).alloc (le_al (le_al HB1.out.size)) _ | exact HB0.out | exact HB0.out.alloc HB0.out.size _ | exact (HB0.out.alloc HB0.out.size _).alloc (le_al HB0.out.size) _ | exact ((HB0.out.alloc HB0.out.size _).alloc (le_al HB0.out.size) _).alloc (le_al (le_al HB0.out.size)) _) (hb2.mono (by (try simp only [World.size_alloc]); (try simp only [size_setCell']); omega)))
    have HN2 := Lib.hid hb2
    clear hb2 hs2
    have HR2 := Lib.hid hr2
    obtain ⟨xa, xc, rfl⟩ := hr2.shape
    clear hr2
    go_wp2_with fail
    refine (new_g _).mono ?_
    rintro e w3 ⟨v3, rfl, ⟨gb, mI, mE, rfl, hG3, q1, q2, q3⟩, hb3⟩
    obtain ⟨hc3, hf3⟩ := bcell hb3
    have hs3 := hb3.size
    try simp only [World.size_alloc] at hs3
    try simp only [size_setCell'] at hs3
    try have le3_0 : w.heap.size ≤ w3.heap.size := (by omega)
    try have lt3_0 : w.heap.size < w3.heap.size := (by omega)
    try have le3_1 : w1.heap.size ≤ w3.heap.size := (by omega)
    try have lt3_1 : w1.heap.size < w3.heap.size := (by omega)
    try have le3_2 : w2.heap.size ≤ w3.heap.size := (by omega)
    try have lt3_2 : w2.heap.size < w3.heap.size := (by omega)
    have HB3 : Hid (Below w.heap.size w w3) := Lib.hid (Below.trans (by first | exact HB2.out | exact HB2.out.alloc HB2.out.size _ | exact (HB2.out.alloc HB2.out.size _).alloc (le_al HB2.out.size) _ | exact ((HB2.out.alloc HB2.out.size _).alloc (le_al HB2.out.size) _).alloc (le_al (le_al HB2.out.size)) _ | exact HB1.out | exact HB1.out.alloc HB1.out.size _ | exact (HB1.out.alloc HB1.out.size _).alloc (le_al HB1.out.size) _ | exact ((HB1.out.alloc HB1.out.size _).alloc (le_al HB1.out.size) _).alloc (le_al (le_al HB1.out.size)) _ | exact HB0.out | exact HB0.out.alloc HB0.out.size _ | exact (HB0.out.alloc HB0.out.size _).alloc (le_al HB0.out.size) _ | exact ((HB0.out.alloc HB0.out.size _).alloc (le_al HB0.out.size) _).alloc (le_al (le_al HB0.out.size)) _) (hb3.mono (by (try simp only [World.size_alloc]); (try simp only [size_setCell']); omega)))
    have HN3 := Lib.hid hb3
    clear hb3 hs3
    have HG3 := Lib.hid hG3
    have HM3 : Hid (w2.heap.size ≤ gb ∧ w2.heap.size ≤ mI ∧ w2.heap.size ≤ mE) := Lib.hid ⟨q1, q2, q3⟩
    clear hG3 q1 q2 q3
    have HLT3 := Lib.hid HG3.out.lt
    go_wp2
    go_loopg [6, 7] L.length (fun gg s6 s7 wr => ∃ i : Nat, s7 = .int .i64 i ∧ i ≤ L.length ∧ L.length - i ≤ gg ∧ Aside (OpsRow w3.heap.size s6 (doneOf Gr.new (L.take i)) wr) ∧ Aside (GrAt wr gb mI mE (ran (L.take i))) ∧ Aside (Below w2.heap.size w2 wr ∧ w3.heap.size ≤ wr.heap.size))
    case atStart => exact ⟨0, rfl, Nat.zero_le _, by omega, (show Aside _ from World.ownsRow_nil _ _ _ _), (show Aside _ from HG3.out), (show Aside _ from ⟨HN3.out, Nat.le_refl _⟩)⟩
    case round =>
      obtain ⟨i, rfl, hil, hgg, hR, hG, hB⟩ := hrel
      have hi0 : (0 : Int) ≤ (i : Int) := by omega
      have hwi : IntKind.i64.wrap ((i : Int) + 1) = (i : Int) + 1 := wrapNat (i + 1) (by omega)
      obtain ⟨ra, rc, rfl⟩ := hR.out.shape
      by_cases hlt : i < L.length
      · have hlti : (i : Int) < (L.length : Int) := by omega
        have hsx := HR2.out.sl.below hB.out.1
        obtain ⟨bb, off, rfl, hbl, hcells⟩ := slAt_at hsx hlt
        obtain ⟨x0, x1, x2, x3, x4, x5, x6, x7, x8, x9, x10, x11, x12⟩ := cellsOpF hcells i hlt
        have hdo := apply_any gb mI mE (ran (L.take i)) L[i]! wr hG.out (ran_ok _) (ran_thin _) (HNS.out _ (getElem!_mem hlt))
        have HST := Lib.hid (ran_step L i hlt)
        have hds := done_step L i hlt
        have HLT : Hid (GrAt wr gb mI mE (ran (L.take i))) := Lib.hid hG.out
        have hlen : (doneOf Gr.new (L.take i)).length ≤ 1000 := by have := (done_sub (L.take i) Gr.new).length_le; rw [List.length_take] at this; omega
        clear hsx
        have HCX : Hid (∀ W, Turn (Maps2 mI mE) wr W → ∀ k u, (Op.cells L[i]!)[k]? = some u → W.cell? ⟨bb, off + i * 13 + k, none⟩ = some u) := Lib.hid fun W hW k u hu => (hW.cell ⟨bb, _, none⟩ hbl).trans (hcells i hlt k u hu)
        clear hcells
        unfold Op.v at hdo
        generalize L[i]! = x at x0 x1 x2 x3 x4 x5 x6 x7 x8 x9 x10 x11 x12 hdo HST hds HCX
        generalize ran (L.take i) = G at hdo HST hds HLT
        have HDO := Lib.hid hdo
        clear hdo
        by_cases hw : G.opWhy x = 0
        · rw [if_pos hw] at hds
          rw [hw] at HDO
          have HDS := Lib.hid hds
          clear hds hw
          generalize doneOf Gr.new (L.take i) = D at *
          cases ra with
          | none =>
            go_wp2_with (first | (go_at_call 40; refine HDO.out.mono ?_; rintro e w5 ⟨rfl, hG5, hT5⟩; have HG5 := Lib.hid hG5; have HT5 := Lib.hid hT5; have HROW := Lib.hid (hR.out.turn2 hT5 HLT3.out.2.1 HLT3.out.2.2); have hx0 := HCX.out w5 hT5 0 _ rfl; have hx1 := HCX.out w5 hT5 1 _ rfl; have hx2 := HCX.out w5 hT5 2 _ rfl; have hx3 := HCX.out w5 hT5 3 _ rfl; have hx4 := HCX.out w5 hT5 4 _ rfl; have hx5 := HCX.out w5 hT5 5 _ rfl; have hx6 := HCX.out w5 hT5 6 _ rfl; have hx7 := HCX.out w5 hT5 7 _ rfl; have hx8 := HCX.out w5 hT5 8 _ rfl; have hx9 := HCX.out w5 hT5 9 _ rfl; have hx10 := HCX.out w5 hT5 10 _ rfl; have hx11 := HCX.out w5 hT5 11 _ rfl; have hx12 := HCX.out w5 hT5 12 _ rfl; rw [Nat.add_zero] at hx0; clear hG5 hT5) | (at_builtin; refine wpList_append_own _ rfl _ _ 40 rfl w3.heap.size 47 i0 _ 13 128 Tryz.underlying40 hinf hz0 hz1 hz2 rfl (by decide) _ _ _ rfl (World.ownsRow.alloc HROW.out _) ⟨w5.heap.size, 0, none⟩ 1 1 x.cells rfl rfl (box_cells (by rw [World.alloc_heap_new]; rfl)) (fun u hu => Op.one x u hu) (by simp only [maxLen]; omega) (by omega) (by have := HT5.out.size; have := hB.out.2; simp only [World.size_alloc]; omega) ?_; intro v' w6 hown' hgrow _; have HO := Lib.hid hown'; have HGW := Lib.hid hgrow; clear hown' hgrow))
            go_roundg (L.length - (i + 1))
            case measure => omega
            case rel => exact (by
              have h5 := HT5.out.size
              have hb := hB.out
              have hge := fun k (e : Value.ownBlock _ = some k) => rowGe HROW.out e
              have hlt3 := HLT3.out
              have hkeep : ∀ k, k < w3.heap.size → w6.heap[k]? = w5.heap[k]? := fun k hk => (HGW.out.block k (by simp only [World.size_alloc]; omega) (fun e => by have := hge k e.symm; omega)).trans (Below.heap_alloc _ _ k (by omega))
              refine ⟨i + 1, by first | rfl | go_num, by omega, by omega, (show Aside _ from ?_), (show Aside _ from ?_), (show Aside _ from ⟨?_, ?_⟩)⟩
              · rw [HDS.out]
                show w6.ownsRow _ _ _ _ _ _
                rw [List.length_append, List.flatMap_append, List.flatMap_cons, List.flatMap_nil, List.append_nil]
                exact HO.out
              · rw [HST.out]
                exact HG5.out.kept (hkeep _ hlt3.1) (hkeep _ hlt3.2.1) (hkeep _ hlt3.2.2)
              · have hz3 := HN3.out.size
                exact hb.1.trans ((own_below HT5.out HM3.out.2.1 HM3.out.2.2 hb.1.size).trans (((Below.refl _ w5).alloc (by have := hb.1.size; omega) _).trans (grownBy_below HGW.out (by have := hb.1.size; simp only [World.size_alloc]; omega) (fun k e => by have := hge k e; omega))))
              · have := HGW.out.size; simp only [World.size_alloc] at this; omega)
          | some ra =>
            go_wp2_with (first | (go_at_call 40; refine HDO.out.mono ?_; rintro e w5 ⟨rfl, hG5, hT5⟩; have HG5 := Lib.hid hG5; have HT5 := Lib.hid hT5; have HROW := Lib.hid (hR.out.turn2 hT5 HLT3.out.2.1 HLT3.out.2.2); have hx0 := HCX.out w5 hT5 0 _ rfl; have hx1 := HCX.out w5 hT5 1 _ rfl; have hx2 := HCX.out w5 hT5 2 _ rfl; have hx3 := HCX.out w5 hT5 3 _ rfl; have hx4 := HCX.out w5 hT5 4 _ rfl; have hx5 := HCX.out w5 hT5 5 _ rfl; have hx6 := HCX.out w5 hT5 6 _ rfl; have hx7 := HCX.out w5 hT5 7 _ rfl; have hx8 := HCX.out w5 hT5 8 _ rfl; have hx9 := HCX.out w5 hT5 9 _ rfl; have hx10 := HCX.out w5 hT5 10 _ rfl; have hx11 := HCX.out w5 hT5 11 _ rfl; have hx12 := HCX.out w5 hT5 12 _ rfl; rw [Nat.add_zero] at hx0; clear hG5 hT5) | (at_builtin; refine wpList_append_own _ rfl _ _ 40 rfl w3.heap.size 47 i0 _ 13 128 Tryz.underlying40 hinf hz0 hz1 hz2 rfl (by decide) _ _ _ rfl (World.ownsRow.alloc HROW.out _) ⟨w5.heap.size, 0, none⟩ 1 1 x.cells rfl rfl (box_cells (by rw [World.alloc_heap_new]; rfl)) (fun u hu => Op.one x u hu) (by simp only [maxLen]; omega) (by omega) (by have := HT5.out.size; have := hB.out.2; simp only [World.size_alloc]; omega) ?_; intro v' w6 hown' hgrow _; have HO := Lib.hid hown'; have HGW := Lib.hid hgrow; clear hown' hgrow))
            all_goals (go_roundg (L.length - (i + 1)))
            case measure => omega
            case rel => exact (by
              have h5 := HT5.out.size
              have hb := hB.out
              have hge := fun k (e : Value.ownBlock _ = some k) => rowGe HROW.out e
              have hlt3 := HLT3.out
              have hkeep : ∀ k, k < w3.heap.size → w6.heap[k]? = w5.heap[k]? := fun k hk => (HGW.out.block k (by simp only [World.size_alloc]; omega) (fun e => by have := hge k e.symm; omega)).trans (Below.heap_alloc _ _ k (by omega))
              refine ⟨i + 1, by first | rfl | go_num, by omega, by omega, (show Aside _ from ?_), (show Aside _ from ?_), (show Aside _ from ⟨?_, ?_⟩)⟩
              · rw [HDS.out]
                show w6.ownsRow _ _ _ _ _ _
                rw [List.length_append, List.flatMap_append, List.flatMap_cons, List.flatMap_nil, List.append_nil]
                exact HO.out
              · rw [HST.out]
                exact HG5.out.kept (hkeep _ hlt3.1) (hkeep _ hlt3.2.1) (hkeep _ hlt3.2.2)
              · have hz3 := HN3.out.size
                exact hb.1.trans ((own_below HT5.out HM3.out.2.1 HM3.out.2.2 hb.1.size).trans (((Below.refl _ w5).alloc (by have := hb.1.size; omega) _).trans (grownBy_below HGW.out (by have := hb.1.size; simp only [World.size_alloc]; omega) (fun k e => by have := hge k e; omega))))
              · have := HGW.out.size; simp only [World.size_alloc] at this; omega)
        · rw [if_neg hw, List.append_nil] at hds
          have HDS := Lib.hid hds
          have he0 : (G.opWhy x == 0) = false := by simpa using hw
          clear hds hw
          generalize G.opWhy x = er at *
          generalize doneOf Gr.new (L.take i) = D at *
          go_wp2_with (go_at_call 40; refine HDO.out.mono ?_; rintro e w5 ⟨rfl, hG5, hT5⟩; have HG5 := Lib.hid hG5; have HT5 := Lib.hid hT5; have HROW := Lib.hid (hR.out.turn2 hT5 HLT3.out.2.1 HLT3.out.2.2); clear hG5 hT5)
          go_roundg (L.length - (i + 1))
          case measure => omega
          case rel => exact ⟨i + 1, by first | rfl | go_num, by omega, by omega, (show Aside _ from by rw [HDS.out]; exact HROW.out), (show Aside _ from by rw [HST.out]; exact HG5.out), (show Aside _ from ⟨hB.out.1.trans (own_below HT5.out HM3.out.2.1 HM3.out.2.2 hB.out.1.size), Nat.le_trans hB.out.2 HT5.out.size⟩)⟩
      · have hlti : ¬ (i : Int) < (L.length : Int) := by omega
        have e : L.take i = L := List.take_of_length_le (by omega)
        have HRD : Hid (OpsRow w3.heap.size (.slice ra (doneOf Gr.new (L.take i)).length rc) (doneOf Gr.new L) wr) := Lib.hid (by have := hR.out; rw [e] at this ⊢; exact this)
        have HGF : Hid (GrAt wr gb mI mE (ofOps l)) := Lib.hid (by have := hG.out; rw [e, HLAW.out.2] at this; exact this)
        have hbw : Below w.heap.size w wr := HB2.out.trans (hB.out.1.mono HB2.out.size)
        have HBW := Lib.hid hbw
        have HOFR : Hid (∀ W, Below wr.heap.size wr W → Calls Tryz.prog 38 #[.slice a1 l.length c1] W (MadeGr W (ofOps l))) := Lib.hid fun W hW => HOF.out HL1.out W (HBW.out.trans (hW.mono HBW.out.size))
        have HLD : Hid ((doneOf Gr.new L).length ≤ 1000 ∧ ∀ o ∈ doneOf Gr.new L, o.Small) := Lib.hid ⟨Nat.le_trans (done_sub L Gr.new).length_le hLX, fun o ho => HNS.out o ((done_sub L Gr.new).subset ho)⟩
        have HBr0 : Hid (Below wr.heap.size wr wr) := Lib.hid (Below.refl _ _)
        clear hlt hbw e
        go_wp2_with fail
        refine (of_any _ (doneOf Gr.new L) wr HRD.out.sl HLD.out.2 HLD.out.1).mono ?_
        rintro e r1 ⟨u1, rfl, ⟨g1, i1, e1, rfl, hG1, _, _, _⟩, hbr1⟩
        obtain ⟨hcr1, hfr1⟩ := bcell hbr1
        have hsr1 := hbr1.size
        try simp only [World.size_alloc] at hsr1
        try simp only [size_setCell'] at hsr1
        try have ler1_0 : wr.heap.size ≤ r1.heap.size := (by omega)
        try have ltr1_0 : wr.heap.size < r1.heap.size := (by omega)
        have HBr1 : Hid (Below wr.heap.size wr r1) := Lib.hid (Below.trans (by first | exact HBr0.out | exact HBr0.out.alloc HBr0.out.size _ | exact (HBr0.out.alloc HBr0.out.size _).alloc (le_al HBr0.out.size) _ | exact ((HBr0.out.alloc HBr0.out.size _).alloc (le_al HBr0.out.size) _).alloc (le_al (le_al HBr0.out.size)) _) (hbr1.mono (by (try simp only [World.size_alloc]); (try simp only [size_setCell']); omega)))
        have HNr1 := Lib.hid hbr1
        clear hbr1 hsr1
        rw [HLAW.out.1] at hG1
        have HG1 := Lib.hid hG1
        have HGFa := Lib.hid (HGF.out.below HNr1.out)
        clear hG1
        go_wp2_with fail
        refine (HOFR.out _ (by first | exact HBr1.out | exact HBr1.out.alloc HBr1.out.size _ | exact (HBr1.out.alloc HBr1.out.size _).alloc (le_al HBr1.out.size) _ | exact ((HBr1.out.alloc HBr1.out.size _).alloc (le_al HBr1.out.size) _).alloc (le_al (le_al HBr1.out.size)) _ | exact HBr0.out | exact HBr0.out.alloc HBr0.out.size _ | exact (HBr0.out.alloc HBr0.out.size _).alloc (le_al HBr0.out.size) _ | exact ((HBr0.out.alloc HBr0.out.size _).alloc (le_al HBr0.out.size) _).alloc (le_al (le_al HBr0.out.size)) _)).mono ?_
        rintro e r2 ⟨u2, rfl, ⟨g2, i2, e2, rfl, hG2, _, _, _⟩, hbr2⟩
        obtain ⟨hcr2, hfr2⟩ := bcell hbr2
        have hsr2 := hbr2.size
        try simp only [World.size_alloc] at hsr2
        try simp only [size_setCell'] at hsr2
        try have ler2_0 : wr.heap.size ≤ r2.heap.size := (by omega)
        try have ltr2_0 : wr.heap.size < r2.heap.size := (by omega)
        try have ler2_1 : r1.heap.size ≤ r2.heap.size := (by omega)
        try have ltr2_1 : r1.heap.size < r2.heap.size := (by omega)
        have HBr2 : Hid (Below wr.heap.size wr r2) := Lib.hid (Below.trans (by first | exact HBr1.out | exact HBr1.out.alloc HBr1.out.size _ | exact (HBr1.out.alloc HBr1.out.size _).alloc (le_al HBr1.out.size) _ | exact ((HBr1.out.alloc HBr1.out.size _).alloc (le_al HBr1.out.size) _).alloc (le_al (le_al HBr1.out.size)) _ | exact HBr0.out | exact HBr0.out.alloc HBr0.out.size _ | exact (HBr0.out.alloc HBr0.out.size _).alloc (le_al HBr0.out.size) _ | exact ((HBr0.out.alloc HBr0.out.size _).alloc (le_al HBr0.out.size) _).alloc (le_al (le_al HBr0.out.size)) _) (hbr2.mono (by (try simp only [World.size_alloc]); (try simp only [size_setCell']); omega)))
        have HNr2 := Lib.hid hbr2
        clear hbr2 hsr2
        have HG2 := Lib.hid hG2
        have HG1a := Lib.hid (HG1.out.below HNr2.out)
        have HGFb := Lib.hid (HGFa.out.below HNr2.out)
        clear hG2
        go_wp2_with fail
        refine (same_any g1 g2 _ r2 (ofOps_ok l) (HG1a.out.reads (ofOps_ok _) (by have := (ofOps_ok l).few; omega)) (HG2.out.reads (ofOps_ok _) (by have := (ofOps_ok l).few; omega))).mono ?_
        rintro e r3 ⟨rfl, hbr3⟩
        obtain ⟨hcr3, hfr3⟩ := bcell hbr3
        have hsr3 := hbr3.size
        try simp only [World.size_alloc] at hsr3
        try simp only [size_setCell'] at hsr3
        try have ler3_0 : wr.heap.size ≤ r3.heap.size := (by omega)
        try have ltr3_0 : wr.heap.size < r3.heap.size := (by omega)
        try have ler3_1 : r1.heap.size ≤ r3.heap.size := (by omega)
        try have ltr3_1 : r1.heap.size < r3.heap.size := (by omega)
        try have ler3_2 : r2.heap.size ≤ r3.heap.size := (by omega)
        try have ltr3_2 : r2.heap.size < r3.heap.size := (by omega)
        have HBr3 : Hid (Below wr.heap.size wr r3) := Lib.hid (Below.trans (by first | exact HBr2.out | exact HBr2.out.alloc HBr2.out.size _ | exact (HBr2.out.alloc HBr2.out.size _).alloc (le_al HBr2.out.size) _ | exact ((HBr2.out.alloc HBr2.out.size _).alloc (le_al HBr2.out.size) _).alloc (le_al (le_al HBr2.out.size)) _ | exact HBr1.out | exact HBr1.out.alloc HBr1.out.size _ | exact (HBr1.out.alloc HBr1.out.size _).alloc (le_al HBr1.out.size) _ | exact ((HBr1.out.alloc HBr1.out.size _).alloc (le_al HBr1.out.size) _).alloc (le_al (le_al HBr1.out.size)) _ | exact HBr0.out | exact HBr0.out.alloc HBr0.out.size _ | exact (HBr0.out.alloc HBr0.out.size _).alloc (le_al HBr0.out.size) _ | exact ((HBr0.out.alloc HBr0.out.size _).alloc (le_al HBr0.out.size) _).alloc (le_al (le_al HBr0.out.size)) _) (hbr3.mono (by (try simp only [World.size_alloc]); (try simp only [size_setCell']); omega)))
        have HNr3 := Lib.hid hbr3
        clear hbr3 hsr3
        have HGFc := Lib.hid (HGFb.out.below HNr3.out)
        go_wp2_with fail
        refine (HOFR.out _ (by first | exact HBr3.out | exact HBr3.out.alloc HBr3.out.size _ | exact (HBr3.out.alloc HBr3.out.size _).alloc (le_al HBr3.out.size) _ | exact ((HBr3.out.alloc HBr3.out.size _).alloc (le_al HBr3.out.size) _).alloc (le_al (le_al HBr3.out.size)) _ | exact HBr2.out | exact HBr2.out.alloc HBr2.out.size _ | exact (HBr2.out.alloc HBr2.out.size _).alloc (le_al HBr2.out.size) _ | exact ((HBr2.out.alloc HBr2.out.size _).alloc (le_al HBr2.out.size) _).alloc (le_al (le_al HBr2.out.size)) _ | exact HBr1.out | exact HBr1.out.alloc HBr1.out.size _ | exact (HBr1.out.alloc HBr1.out.size _).alloc (le_al HBr1.out.size) _ | exact ((HBr1.out.alloc HBr1.out.size _).alloc (le_al HBr1.out.size) _).alloc (le_al (le_al HBr1.out.size)) _ | exact HBr0.out | exact HBr0.out.alloc HBr0.out.size _ | exact (HBr0.out.alloc HBr0.out.size _).alloc (le_al HBr0.out.size) _ | exact ((HBr0.out.alloc HBr0.out.size _).alloc (le_al HBr0.out.size) _).alloc (le_al (le_al HBr0.out.size)) _)).mono ?_
        rintro e r4 ⟨u4, rfl, ⟨g4, i4, e4, rfl, hG4, _, _, _⟩, hbr4⟩
        obtain ⟨hcr4, hfr4⟩ := bcell hbr4
        have hsr4 := hbr4.size
        try simp only [World.size_alloc] at hsr4
        try simp only [size_setCell'] at hsr4
        try have ler4_0 : wr.heap.size ≤ r4.heap.size := (by omega)
        try have ltr4_0 : wr.heap.size < r4.heap.size := (by omega)
        try have ler4_1 : r1.heap.size ≤ r4.heap.size := (by omega)
        try have ltr4_1 : r1.heap.size < r4.heap.size := (by omega)
        try have ler4_2 : r2.heap.size ≤ r4.heap.size := (by omega)
        try have ltr4_2 : r2.heap.size < r4.heap.size := (by omega)
        try have ler4_3 : r3.heap.size ≤ r4.heap.size := (by omega)
        try have ltr4_3 : r3.heap.size < r4.heap.size := (by omega)
        have HBr4 : Hid (Below wr.heap.size wr r4) := Lib.hid (Below.trans (by first | exact HBr3.out | exact HBr3.out.alloc HBr3.out.size _ | exact (HBr3.out.alloc HBr3.out.size _).alloc (le_al HBr3.out.size) _ | exact ((HBr3.out.alloc HBr3.out.size _).alloc (le_al HBr3.out.size) _).alloc (le_al (le_al HBr3.out.size)) _ | exact HBr2.out | exact HBr2.out.alloc HBr2.out.size _ | exact (HBr2.out.alloc HBr2.out.size _).alloc (le_al HBr2.out.size) _ | exact ((HBr2.out.alloc HBr2.out.size _).alloc (le_al HBr2.out.size) _).alloc (le_al (le_al HBr2.out.size)) _ | exact HBr1.out | exact HBr1.out.alloc HBr1.out.size _ | exact (HBr1.out.alloc HBr1.out.size _).alloc (le_al HBr1.out.size) _ | exact ((HBr1.out.alloc HBr1.out.size _).alloc (le_al HBr1.out.size) _).alloc (le_al (le_al HBr1.out.size)) _ | exact HBr0.out | exact HBr0.out.alloc HBr0.out.size _ | exact (HBr0.out.alloc HBr0.out.size _).alloc (le_al HBr0.out.size) _ | exact ((HBr0.out.alloc HBr0.out.size _).alloc (le_al HBr0.out.size) _).alloc (le_al (le_al HBr0.out.size)) _) (hbr4.mono (by (try simp only [World.size_alloc]); (try simp only [size_setCell']); omega)))
        have HNr4 := Lib.hid hbr4
        clear hbr4 hsr4
        have HG4 := Lib.hid hG4
        have HGFd := Lib.hid (HGFc.out.below HNr4.out)
        clear hG4
        go_wp2_with fail
        refine (same_any gb g4 _ r4 (ofOps_ok l) (HGFd.out.reads (ofOps_ok _) (by have := (ofOps_ok l).few; omega)) (HG4.out.reads (ofOps_ok _) (by have := (ofOps_ok l).few; omega))).mono ?_
        rintro e r5 ⟨rfl, hbr5⟩
        obtain ⟨hcr5, hfr5⟩ := bcell hbr5
        have hsr5 := hbr5.size
        try simp only [World.size_alloc] at hsr5
        try simp only [size_setCell'] at hsr5
        try have ler5_0 : wr.heap.size ≤ r5.heap.size := (by omega)
        try have ltr5_0 : wr.heap.size < r5.heap.size := (by omega)
        try have ler5_1 : r1.heap.size ≤ r5.heap.size := (by omega)
        try have ltr5_1 : r1.heap.size < r5.heap.size := (by omega)
        try have ler5_2 : r2.heap.size ≤ r5.heap.size := (by omega)
        try have ltr5_2 : r2.heap.size < r5.heap.size := (by omega)
        try have ler5_3 : r3.heap.size ≤ r5.heap.size := (by omega)
        try have ltr5_3 : r3.heap.size < r5.heap.size := (by omega)
        try have ler5_4 : r4.heap.size ≤ r5.heap.size := (by omega)
        try have ltr5_4 : r4.heap.size < r5.heap.size := (by omega)
        have HBr5 : Hid (Below wr.heap.size wr r5) := Lib.hid (Below.trans (by first | exact HBr4.out | exact HBr4.out.alloc HBr4.out.size _ | exact (HBr4.out.alloc HBr4.out.size _).alloc (le_al HBr4.out.size) _ | exact ((HBr4.out.alloc HBr4.out.size _).alloc (le_al HBr4.out.size) _).alloc (le_al (le_al HBr4.out.size)) _ | exact HBr3.out | exact HBr3.out.alloc HBr3.out.size _ | exact (HBr3.out.alloc HBr3.out.size _).alloc (le_al HBr3.out.size) _ | exact ((HBr3.out.alloc HBr3.out.size _).alloc (le_al HBr3.out.size) _).alloc (le_al (le_al HBr3.out.size)) _ | exact HBr2.out | exact HBr2.out.alloc HBr2.out.size _ | exact (HBr2.out.alloc HBr2.out.size _).alloc (le_al HBr2.out.size) _ | exact ((HBr2.out.alloc HBr2.out.size _).alloc (le_al HBr2.out.size) _).alloc (le_al (le_al HBr2.out.size)) _ | exact HBr1.out | exact HBr1.out.alloc HBr1.out.size _ | exact (HBr1.out.alloc HBr1.out.size _).alloc (le_al HBr1.out.size) _ | exact ((HBr1.out.alloc HBr1.out.size _).alloc (le_al HBr1.out.size) _).alloc (le_al (le_al HBr1.out.size)) _ | exact HBr0.out | exact HBr0.out.alloc HBr0.out.size _ | exact (HBr0.out.alloc HBr0.out.size _).alloc (le_al HBr0.out.size) _ | exact ((HBr0.out.alloc HBr0.out.size _).alloc (le_al HBr0.out.size) _).alloc (le_al (le_al HBr0.out.size)) _) (hbr5.mono (by (try simp only [World.size_alloc]); (try simp only [size_setCell']); omega)))
        have HNr5 := Lib.hid hbr5
        clear hbr5 hsr5
        go_wp2
        go_ret
        exact ⟨rfl, HBW.out.trans (HBr5.out.mono HBW.out.size)⟩
end Go.Proofs.YtlokljaeknmdpaaGreat.L13
