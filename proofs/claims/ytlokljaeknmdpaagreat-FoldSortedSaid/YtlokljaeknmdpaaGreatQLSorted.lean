/-
  thimblelaw13.FoldSorted: what is sorted rises; no condition but the texts' reach.
-/
import Derived.Test.YtlokljaeknmdpaaGreatQL13
import Derived.Test.YtlokljaeknmdpaaGreatKFold
namespace Go.Proofs.YtlokljaeknmdpaaGreat.L13
open Go.RowKit Go.Shelf Go.Proofs

set_option maxRecDepth 100000 in
set_option maxHeartbeats 8000000 in
theorem sorted_walk (v1 : Value) (l : List Op) (w : World) (hs1 : SlAt w 13 Op.cells v1 l) (hn1 : ∀ o ∈ l, o.Small) :
    Calls Tryz.prog 11 #[v1] w fun y w' => y = .returned (.bool true) ∧ Below w.heap.size w w' := by
  have HF1 := Lib.hid (fun W (hW : Below w.heap.size w W) => few_any v1 l W (hs1.below hW))
  have HSO := Lib.hid (fun (hl : l.length ≤ 1000) W (hW : Below w.heap.size w W) => sort_any v1 l W (hs1.below hW) hn1 hl)
  have HSL : Hid (∀ W, Below w.heap.size w W → SlAt W 13 Op.cells v1 l) := Lib.hid fun W hW => hs1.below hW
  have HNM := Lib.hid hn1
  have HNS : Hid (∀ o ∈ sortOps l, o.Small) := Lib.hid fun o ho => hn1 o (sort_sub ho)
  have HB0 : Hid (Below w.heap.size w w) := Lib.hid (Below.refl _ _)
  obtain ⟨a1, c1, rfl⟩ := hs1.len
  clear hs1 hn1
  cases hf1 : decide (l.length ≤ 60) with
  | false =>
    rw [hf1] at HF1
    clear hf1
    go_enter Tryz.func11, Tryz.ntmps11
    go_wp2_with fail
    refine (shown_any _).mono ?_
    rintro e w1 ⟨rfl, hb1⟩
    obtain ⟨hc1, hf1⟩ := bcell hb1
    have hs1 := hb1.size
    try simp only [World.size_alloc] at hs1
    try simp only [size_setCell'] at hs1
    try have le1_0 : w.heap.size ≤ w1.heap.size := (by omega)
    try have lt1_0 : w.heap.size < w1.heap.size := (by omega)
    have HB1 : Hid (Below w.heap.size w w1) := Lib.hid (Below.trans (by first | exact HB0.out | exact HB0.out.alloc HB0.out.size _ | exact (HB0.out.alloc HB0.out.size _).alloc (le_al HB0.out.size) _ | exact ((HB0.out.alloc HB0.out.size _).alloc (le_al HB0.out.size) _).alloc (le_al (le_al HB0.out.size)) _) (hb1.mono (by (try simp only [World.size_alloc]); (try simp only [size_setCell']); omega)))
    have HN1 := Lib.hid hb1
    clear hb1 hs1
    go_wp2_with (go_at_call 35; refine (HF1.out _ HB1.out).mono ?_; rintro y w' ⟨rfl, rfl⟩)
    go_ret
    exact ⟨rfl, HB1.out⟩
  | true =>
    rw [hf1] at HF1
    have HL6 : Hid (l.length ≤ 60) := Lib.hid (of_decide_eq_true hf1)
    have HL1 : Hid (l.length ≤ 1000) := Lib.hid (by have := HL6.out; omega)
    have HLX : Hid ((sortOps l).length ≤ 60) := Lib.hid (Nat.le_trans (sort_len l) HL6.out)
    have HXL : Hid ((∀ i, i < (sortOps l).length → belowOps (sortOps l) (sortOps l)[i]!.stamp = i + 1) ∧ belowOps (sortOps l) ⟨0, 0⟩ = 0 ∧ sortOps (sortOps l) = sortOps l) := Lib.hid ⟨fun i hi => below_at (sort_rises l) hi, below_none (sort_may l), sort_sort l⟩
    clear hf1
    go_enter Tryz.func11, Tryz.ntmps11
    go_wp2_with fail
    refine (shown_any _).mono ?_
    rintro e w1 ⟨rfl, hb1⟩
    obtain ⟨hc1, hf1⟩ := bcell hb1
    have hs1 := hb1.size
    try simp only [World.size_alloc] at hs1
    try simp only [size_setCell'] at hs1
    try have le1_0 : w.heap.size ≤ w1.heap.size := (by omega)
    try have lt1_0 : w.heap.size < w1.heap.size := (by omega)
    have HB1 : Hid (Below w.heap.size w w1) := Lib.hid (Below.trans (by first | exact HB0.out | exact HB0.out.alloc HB0.out.size _ | exact (HB0.out.alloc HB0.out.size _).alloc (le_al HB0.out.size) _ | exact ((HB0.out.alloc HB0.out.size _).alloc (le_al HB0.out.size) _).alloc (le_al (le_al HB0.out.size)) _) (hb1.mono (by (try simp only [World.size_alloc]); (try simp only [size_setCell']); omega)))
    have HN1 := Lib.hid hb1
    clear hb1 hs1
    go_wp2_with (go_at_call 35; refine (HF1.out _ HB1.out).mono ?_; rintro y w' ⟨rfl, rfl⟩)
    go_wp2_with fail
    refine (HSO.out HL1.out _ (by first | exact HB1.out | exact HB1.out.alloc HB1.out.size _ | exact (HB1.out.alloc HB1.out.size _).alloc (le_al HB1.out.size) _ | exact ((HB1.out.alloc HB1.out.size _).alloc (le_al HB1.out.size) _).alloc (le_al (le_al HB1.out.size)) _ | exact HB0.out | exact HB0.out.alloc HB0.out.size _ | exact (HB0.out.alloc HB0.out.size _).alloc (le_al HB0.out.size) _ | exact ((HB0.out.alloc HB0.out.size _).alloc (le_al HB0.out.size) _).alloc (le_al (le_al HB0.out.size)) _)).mono ?_
    rintro e w2 ⟨v2, rfl, hr2, hb2⟩
    obtain ⟨hc2, hf2⟩ := bcell hb2
    have hs2 := hb2.size
    try simp only [World.size_alloc] at hs2
    try simp only [size_setCell'] at hs2
    try have le2_0 : w.heap.size ≤ w2.heap.size := (by omega)
    try have lt2_0 : w.heap.size < w2.heap.size := (by omega)
    try have le2_1 : w1.heap.size ≤ w2.heap.size := (by omega)
    try have lt2_1 : w1.heap.size < w2.heap.size := (by omega)
    have HB2 : Hid (Below w.heap.size w w2) := Lib.hid (Below.trans (by first | exact HB1.out | exact HB1.out.alloc HB1.out.size _ | exact (HB1.out.alloc HB1.out.size _).alloc (le_al HB1.out.size) _ | exact ((HB1.out.alloc HB1.out.size _).alloc (le_al HB1.out.size) _).alloc (le_al (le_al HB1.out.size)) _ | exact HB0.out | exact HB0.out.alloc HB0.out.size _ | exact (HB0.out.alloc HB0.out.size _).alloc (le_al HB0.out.size) _ | exact ((HB0.out.alloc HB0.out.size _).alloc (le_al HB0.out.size) _).alloc (le_al (le_al HB0.out.size)) _) (hb2.mono (by (try simp only [World.size_alloc]); (try simp only [size_setCell']); omega)))
    have HN2 := Lib.hid hb2
    clear hb2 hs2
    have HR2 := Lib.hid hr2
    obtain ⟨xa, xc, rfl⟩ := hr2.shape
    clear hr2
    go_wp2
    go_loopg [5, 6] l.length (fun gg s5 s6 wr => ∃ i : Nat, s6 = .int .i64 i ∧ i ≤ l.length ∧ l.length - i ≤ gg ∧ Aside (OpsRow w2.heap.size s5 (sortOps (l.take i)) wr) ∧ Aside (Below w2.heap.size w2 wr))
    case atStart => exact ⟨0, rfl, Nat.zero_le _, by omega, (show Aside _ from World.ownsRow_nil _ _ _ _), (show Aside _ from Below.refl _ _)⟩
    case round =>
      obtain ⟨i, rfl, hil, hgg, hR, hB⟩ := hrel
      have hi0 : (0 : Int) ≤ (i : Int) := by omega
      have hwi : IntKind.i64.wrap ((i : Int) + 1) = (i : Int) + 1 := wrapNat (i + 1) (by have := HL6.out; omega)
      obtain ⟨ra, rc, rfl⟩ := hR.out.shape
      by_cases hlt : i < l.length
      · have hlti : (i : Int) < (l.length : Int) := by omega
        have hbw : Below w.heap.size w wr := HB2.out.trans (hB.out.mono HB2.out.size)
        obtain ⟨bb, off, rfl, hbl, hcells⟩ := slAt_at (HSL.out wr hbw) hlt
        obtain ⟨x0, x1, x2, x3, x4, x5, x6, x7, x8, x9, x10, x11, x12⟩ := cellsOpF hcells i hlt
        have hsl : (sortOps (l.take i)).length ≤ 60 := by have h1 := sort_len (l.take i); have h2 := HL6.out; rw [List.length_take] at h1; omega
        have hput := put_any _ (sortOps (l.take i)) l[i]! wr hR.out.sl (sort_rises _) (by omega) (HNM.out _ (getElem!_mem hlt))
        have HST := Lib.hid (sort_step l i hlt)
        have HCX : Hid (∀ W, Below wr.heap.size wr W → ∀ k u, (Op.cells l[i]!)[k]? = some u → W.cell? ⟨bb, off + i * 13 + k, none⟩ = some u) := Lib.hid fun W hW k u hu => (hW.cell (p := ⟨bb, _, none⟩) hbl).trans (hcells i hlt k u hu)
        have hple := place_le (sortOps (l.take i)) l[i]!
        clear hcells hbw
        unfold Op.v at hput
        generalize hxx : l[i]! = x at x0 x1 x2 x3 x4 x5 x6 x7 x8 x9 x10 x11 x12 hput HST HCX hple
        clear hxx
        generalize sortOps (l.take i) = S at hR hput HST hsl hple
        have HPUT := Lib.hid hput
        clear hput
        cases hp : putB S x with
        | false =>
          have hnn : ((S.length : Int) != (S.length : Int)) = false := by simp
          have HP := Lib.hid hp
          clear hp
          go_wp2_with (go_at_call 37; refine HPUT.out.mono ?_; rintro e w5 ⟨v5, rfl, hf5, ht5, hb5⟩; obtain rfl := hf5 HP.out; rw [HP.out]; have HB5 := Lib.hid hb5; clear hf5 ht5 hb5)
          go_quiet (fail)
          go_wp2
          go_roundg (l.length - (i + 1))
          case measure => omega
          case rel => exact ⟨i + 1, by first | rfl | go_num, by omega, by omega, (show Aside _ from by rw [HST.out, put_not HP.out]; exact ownsRow_keep (hR.out.kept HB5.out) (fun _ _ _ => rfl)), (show Aside _ from (hB.out.trans (HB5.out.mono hB.out.size)).trans ⟨rfl, rfl, rfl, Nat.le_refl _, fun _ _ => rfl⟩)⟩
        | true =>
          have HP := Lib.hid hp
          obtain ⟨hpa, hpb⟩ := put_at hp
          have hpl := putOp_len S x
          rw [hp, if_pos rfl] at hpl
          have hnn : (((putOp S x).length : Int) != (S.length : Int) + 1) = false := by rw [hpl]; simp
          have hwr : IntKind.i64.wrap ((S.length : Int) + 1) = (S.length : Int) + 1 := wrapNat (S.length + 1) (by omega)
          have hd1 : decide ((placeOf S x : Int) < 0) = false := by rw [decide_eq_false_iff_not]; omega
          have hd2 : decide (((putOp S x).length : Int) ≤ (placeOf S x : Int)) = false := by rw [decide_eq_false_iff_not]; omega
          have hd3 : decide ((putOp S x).length ≤ placeOf S x) = false := by rw [decide_eq_false_iff_not]; omega
          have hd4 : (0 : Int) ≤ (placeOf S x : Int) := by omega
          have hd5 : (placeOf S x : Int) < ((putOp S x).length : Int) := by omega
          have HNE : ∀ w, (binOp .neq 47 (.agg #[.int .i64 x.stamp.t, .int .i64 x.stamp.r, .int .i64 x.kind, .int .i64 x.at_.t, .int .i64 x.at_.r, .int .i64 x.ino.t, .int .i64 x.ino.r, .int .i64 x.to.t, .int .i64 x.to.r, .string x.name, .string x.new, .int .i64 x.off, .string x.data]) (.agg #[.int .i64 x.stamp.t, .int .i64 x.stamp.r, .int .i64 x.kind, .int .i64 x.at_.t, .int .i64 x.at_.r, .int .i64 x.ino.t, .int .i64 x.ino.r, .int .i64 x.to.t, .int .i64 x.to.r, .string x.name, .string x.new, .int .i64 x.off, .string x.data])).run Tryz.prog w = .ok (.bool false) w := fun w => neq_op_self _ w
          have HPB : Hid (placeOf S x < (putOp S x).length ∧ (putOp S x)[placeOf S x]! = x) := Lib.hid ⟨hpa, hpb⟩
          clear hp hpa hpb hpl hple
          go_wp2_with (go_at_call 37; refine HPUT.out.mono ?_; rintro e w5 ⟨v5, rfl, hf5, ht5, hb5⟩; rw [HP.out]; have HR5 : Hid (OpsRow wr.heap.size v5 (putOp S x) w5) := Lib.hid (ht5 HP.out); have HB5 := Lib.hid hb5; obtain ⟨ya, yc, rfl⟩ := HR5.out.shape; obtain ⟨nb, no, rfl, hnl, hnc⟩ := slAt_at HR5.out.sl HPB.out.1; obtain ⟨y0, y1, y2, y3, y4, y5, y6, y7, y8, y9, y10, y11, y12⟩ := cellsOpF hnc _ HPB.out.1; rw [HPB.out.2] at y0 y1 y2 y3 y4 y5 y6 y7 y8 y9 y10 y11 y12; have hx0 := HCX.out w5 hb5 0 _ rfl; have hx1 := HCX.out w5 hb5 1 _ rfl; have hx2 := HCX.out w5 hb5 2 _ rfl; have hx3 := HCX.out w5 hb5 3 _ rfl; have hx4 := HCX.out w5 hb5 4 _ rfl; have hx5 := HCX.out w5 hb5 5 _ rfl; have hx6 := HCX.out w5 hb5 6 _ rfl; have hx7 := HCX.out w5 hb5 7 _ rfl; have hx8 := HCX.out w5 hb5 8 _ rfl; have hx9 := HCX.out w5 hb5 9 _ rfl; have hx10 := HCX.out w5 hb5 10 _ rfl; have hx11 := HCX.out w5 hb5 11 _ rfl; have hx12 := HCX.out w5 hb5 12 _ rfl; rw [Nat.add_zero] at hx0; clear hf5 ht5 hb5 hnc)
          go_quiet (fail)
          go_wp2
          go_roundg (l.length - (i + 1))
          case measure => omega
          case rel => exact ⟨i + 1, by first | rfl | go_num, by omega, by omega, (show Aside _ from by rw [HST.out]; exact ownsRow_keep (HR5.out.mono hB.out.size) (fun _ _ _ => rfl)), (show Aside _ from (hB.out.trans (HB5.out.mono hB.out.size)).trans ⟨rfl, rfl, rfl, Nat.le_refl _, fun _ _ => rfl⟩)⟩
      · have hlti : ¬ (i : Int) < (l.length : Int) := by omega
        have e : l.take i = l := List.take_of_length_le (by omega)
        have HY : Hid (OpsRow w2.heap.size (.slice ra (sortOps (l.take i)).length rc) (sortOps l) wr) := Lib.hid (by have := hR.out; rw [e] at this ⊢; exact this)
        have HX : Hid (OpsRow w.heap.size (.slice xa (sortOps l).length xc) (sortOps l) wr) := Lib.hid ((HR2.out.kept hB.out).mono HB1.out.size)
        have hbw : Below w.heap.size w wr := HB2.out.trans (hB.out.mono HB2.out.size)
        have HBW := Lib.hid hbw
        clear hlt hbw e hR hB
        generalize (sortOps (l.take i)).length = yl at *
        generalize sortOps l = L at *
        clear hwi
        obtain ⟨wo, hwo⟩ : ∃ wo, wo = wr := ⟨_, rfl⟩
        subst hwo
        go_wp2
        go_loopg [10] L.length (fun gg s10 wr => ∃ j : Nat, s10 = .int .i64 j ∧ j ≤ L.length ∧ L.length - j ≤ gg ∧ Aside (Below wo.heap.size wo wr))
        case atStart => exact ⟨0, rfl, Nat.zero_le _, by omega, (show Aside _ from Below.refl _ _)⟩
        case round =>
          obtain ⟨j, rfl, hjl, hgj, hQ⟩ := hrel
          have hj0 : (0 : Int) ≤ (j : Int) := by omega
          have hwj : IntKind.i64.wrap ((j : Int) + 1) = (j : Int) + 1 := wrapNat (j + 1) (by have := HLX.out; omega)
          by_cases hlj : j + 1 < L.length
          · have hljc : (j : Int) + 1 < (L.length : Int) := by omega
            have hljd : (j : Int) < (L.length : Int) := by omega
            have hxq := (HX.out.kept hQ.out).sl
            obtain ⟨xb, xo, rfl, _, hxc⟩ := slAt_at hxq (show j < L.length by omega)
            obtain ⟨x0, x1, x2, x3, x4, x5, x6, x7, x8, x9, x10, x11, x12⟩ := cellsOpF hxc j (by omega)
            have hbl := below_any _ L L[j]!.stamp wr hxq (by have := HLX.out; omega)
            rw [HXL.out.1 j (by omega)] at hbl
            have hnj : ((((j + 1 : Nat) : Int)) != (j : Int) + 1) = false := by simp
            unfold St.v at hbl
            have HBL := Lib.hid hbl
            clear hxq hxc hbl
            generalize L[j]! = z at *
            go_wp2_with (go_at_call 43; refine HBL.out.mono ?_; rintro e w5 ⟨rfl, hb5⟩; have HB5 := Lib.hid hb5; clear hb5)
            go_roundg (L.length - (j + 1))
            case measure => omega
            case rel => exact ⟨j + 1, by first | rfl | go_num, by omega, by omega, (show Aside _ from hQ.out.trans (HB5.out.mono hQ.out.size))⟩
          · have hljc : ¬ (j : Int) + 1 < (L.length : Int) := by omega
            have HXq := Lib.hid (HX.out.kept hQ.out)
            have HYq := Lib.hid (HY.out.kept hQ.out)
            have HBQ : Hid (Below w.heap.size w wr) := Lib.hid (HBW.out.trans (hQ.out.mono HBW.out.size))
            have hly : yl = L.length := by obtain ⟨_, _, h⟩ := HYq.out.shape; simp at h; exact h.2.1
            have HLB : Hid (L.length ≤ 1000) := Lib.hid (by have := HLX.out; omega)
            subst hly
            have HBq0 : Hid (Below wr.heap.size wr wr) := Lib.hid (Below.refl _ _)
            clear hlj hQ
            go_wp2_with fail
            refine (ops_same _ _ L wr HXq.out.sl HYq.out.sl HLB.out).mono ?_
            rintro e q1 ⟨rfl, hbq1⟩
            obtain ⟨hcq1, hfq1⟩ := bcell hbq1
            have hsq1 := hbq1.size
            try simp only [World.size_alloc] at hsq1
            try simp only [size_setCell'] at hsq1
            try have leq1_0 : wr.heap.size ≤ q1.heap.size := (by omega)
            try have ltq1_0 : wr.heap.size < q1.heap.size := (by omega)
            have HBq1 : Hid (Below wr.heap.size wr q1) := Lib.hid (Below.trans (by first | exact HBq0.out | exact HBq0.out.alloc HBq0.out.size _ | exact (HBq0.out.alloc HBq0.out.size _).alloc (le_al HBq0.out.size) _ | exact ((HBq0.out.alloc HBq0.out.size _).alloc (le_al HBq0.out.size) _).alloc (le_al (le_al HBq0.out.size)) _) (hbq1.mono (by (try simp only [World.size_alloc]); (try simp only [size_setCell']); omega)))
            have HNq1 := Lib.hid hbq1
            clear hbq1 hsq1
            have HX1 := Lib.hid (HXq.out.kept HNq1.out)
            go_wp2_with fail
            refine (sort_any _ L q1 HX1.out.sl HNS.out HLB.out).mono ?_
            rintro e q2 ⟨u2, rfl, hr2, hbq2⟩
            obtain ⟨hcq2, hfq2⟩ := bcell hbq2
            have hsq2 := hbq2.size
            try simp only [World.size_alloc] at hsq2
            try simp only [size_setCell'] at hsq2
            try have leq2_0 : wr.heap.size ≤ q2.heap.size := (by omega)
            try have ltq2_0 : wr.heap.size < q2.heap.size := (by omega)
            try have leq2_1 : q1.heap.size ≤ q2.heap.size := (by omega)
            try have ltq2_1 : q1.heap.size < q2.heap.size := (by omega)
            have HBq2 : Hid (Below wr.heap.size wr q2) := Lib.hid (Below.trans (by first | exact HBq1.out | exact HBq1.out.alloc HBq1.out.size _ | exact (HBq1.out.alloc HBq1.out.size _).alloc (le_al HBq1.out.size) _ | exact ((HBq1.out.alloc HBq1.out.size _).alloc (le_al HBq1.out.size) _).alloc (le_al (le_al HBq1.out.size)) _ | exact HBq0.out | exact HBq0.out.alloc HBq0.out.size _ | exact (HBq0.out.alloc HBq0.out.size _).alloc (le_al HBq0.out.size) _ | exact ((HBq0.out.alloc HBq0.out.size _).alloc (le_al HBq0.out.size) _).alloc (le_al (le_al HBq0.out.size)) _) (hbq2.mono (by (try simp only [World.size_alloc]); (try simp only [size_setCell']); omega)))
            have HNq2 := Lib.hid hbq2
            clear hbq2 hsq2
            rw [HXL.out.2.2] at hr2
            have HU2 := Lib.hid hr2
            obtain ⟨ua, uc, rfl⟩ := hr2.shape
            have HX2 := Lib.hid (HX1.out.kept HNq2.out)
            clear hr2
            go_wp2_with fail
            refine (ops_same _ _ L q2 HU2.out.sl HX2.out.sl HLB.out).mono ?_
            rintro e q3 ⟨rfl, hbq3⟩
            obtain ⟨hcq3, hfq3⟩ := bcell hbq3
            have hsq3 := hbq3.size
            try simp only [World.size_alloc] at hsq3
            try simp only [size_setCell'] at hsq3
            try have leq3_0 : wr.heap.size ≤ q3.heap.size := (by omega)
            try have ltq3_0 : wr.heap.size < q3.heap.size := (by omega)
            try have leq3_1 : q1.heap.size ≤ q3.heap.size := (by omega)
            try have ltq3_1 : q1.heap.size < q3.heap.size := (by omega)
            try have leq3_2 : q2.heap.size ≤ q3.heap.size := (by omega)
            try have ltq3_2 : q2.heap.size < q3.heap.size := (by omega)
            have HBq3 : Hid (Below wr.heap.size wr q3) := Lib.hid (Below.trans (by first | exact HBq2.out | exact HBq2.out.alloc HBq2.out.size _ | exact (HBq2.out.alloc HBq2.out.size _).alloc (le_al HBq2.out.size) _ | exact ((HBq2.out.alloc HBq2.out.size _).alloc (le_al HBq2.out.size) _).alloc (le_al (le_al HBq2.out.size)) _ | exact HBq1.out | exact HBq1.out.alloc HBq1.out.size _ | exact (HBq1.out.alloc HBq1.out.size _).alloc (le_al HBq1.out.size) _ | exact ((HBq1.out.alloc HBq1.out.size _).alloc (le_al HBq1.out.size) _).alloc (le_al (le_al HBq1.out.size)) _ | exact HBq0.out | exact HBq0.out.alloc HBq0.out.size _ | exact (HBq0.out.alloc HBq0.out.size _).alloc (le_al HBq0.out.size) _ | exact ((HBq0.out.alloc HBq0.out.size _).alloc (le_al HBq0.out.size) _).alloc (le_al (le_al HBq0.out.size)) _) (hbq3.mono (by (try simp only [World.size_alloc]); (try simp only [size_setCell']); omega)))
            have HNq3 := Lib.hid hbq3
            clear hbq3 hsq3
            have HX3 := Lib.hid (HX2.out.kept HNq3.out)
            have HBE := Lib.hid (below_any _ L ⟨0, 0⟩ q3 HX3.out.sl HLB.out)
            rw [HXL.out.2.1] at HBE
            go_wp2_with fail
            refine (HBE.out).mono ?_
            rintro e q4 ⟨rfl, hbq4⟩
            obtain ⟨hcq4, hfq4⟩ := bcell hbq4
            have hsq4 := hbq4.size
            try simp only [World.size_alloc] at hsq4
            try simp only [size_setCell'] at hsq4
            try have leq4_0 : wr.heap.size ≤ q4.heap.size := (by omega)
            try have ltq4_0 : wr.heap.size < q4.heap.size := (by omega)
            try have leq4_1 : q1.heap.size ≤ q4.heap.size := (by omega)
            try have ltq4_1 : q1.heap.size < q4.heap.size := (by omega)
            try have leq4_2 : q2.heap.size ≤ q4.heap.size := (by omega)
            try have ltq4_2 : q2.heap.size < q4.heap.size := (by omega)
            try have leq4_3 : q3.heap.size ≤ q4.heap.size := (by omega)
            try have ltq4_3 : q3.heap.size < q4.heap.size := (by omega)
            have HBq4 : Hid (Below wr.heap.size wr q4) := Lib.hid (Below.trans (by first | exact HBq3.out | exact HBq3.out.alloc HBq3.out.size _ | exact (HBq3.out.alloc HBq3.out.size _).alloc (le_al HBq3.out.size) _ | exact ((HBq3.out.alloc HBq3.out.size _).alloc (le_al HBq3.out.size) _).alloc (le_al (le_al HBq3.out.size)) _ | exact HBq2.out | exact HBq2.out.alloc HBq2.out.size _ | exact (HBq2.out.alloc HBq2.out.size _).alloc (le_al HBq2.out.size) _ | exact ((HBq2.out.alloc HBq2.out.size _).alloc (le_al HBq2.out.size) _).alloc (le_al (le_al HBq2.out.size)) _ | exact HBq1.out | exact HBq1.out.alloc HBq1.out.size _ | exact (HBq1.out.alloc HBq1.out.size _).alloc (le_al HBq1.out.size) _ | exact ((HBq1.out.alloc HBq1.out.size _).alloc (le_al HBq1.out.size) _).alloc (le_al (le_al HBq1.out.size)) _ | exact HBq0.out | exact HBq0.out.alloc HBq0.out.size _ | exact (HBq0.out.alloc HBq0.out.size _).alloc (le_al HBq0.out.size) _ | exact ((HBq0.out.alloc HBq0.out.size _).alloc (le_al HBq0.out.size) _).alloc (le_al (le_al HBq0.out.size)) _) (hbq4.mono (by (try simp only [World.size_alloc]); (try simp only [size_setCell']); omega)))
            have HNq4 := Lib.hid hbq4
            clear hbq4 hsq4
            go_wp2
            go_ret
            exact ⟨rfl, HBQ.out.trans (HBq4.out.mono HBQ.out.size)⟩
end Go.Proofs.YtlokljaeknmdpaaGreat.L13
