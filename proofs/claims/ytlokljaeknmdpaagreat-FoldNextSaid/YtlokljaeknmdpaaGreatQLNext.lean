/-
  thimblelaw13.FoldNext: an operation above all others; no condition but the texts' reach.
-/
import Derived.Test.YtlokljaeknmdpaaGreatQL13
import Derived.Test.YtlokljaeknmdpaaGreatKFold
namespace Go.Proofs.YtlokljaeknmdpaaGreat.L13
open Go.RowKit Go.Shelf Go.Proofs

set_option maxRecDepth 100000 in
set_option maxHeartbeats 8000000 in
theorem next_walk (v1 : Value) (l : List Op) (o : Op) (w : World) (hs1 : SlAt w 13 Op.cells v1 l) (hn1 : ∀ o ∈ l, o.Small) (h_o : o.Small) :
    Calls Tryz.prog 7 #[v1, o.v] w fun y w' => y = .returned (.bool true) ∧ Below w.heap.size w w' := by
  have HF1 := Lib.hid (fun W (hW : Below w.heap.size w W) => few_any v1 l W (hs1.below hW))
  have HSO := Lib.hid (fun (hl : l.length ≤ 1000) W (hW : Below w.heap.size w W) => sort_any v1 l W (hs1.below hW) hn1 hl)
  have HOF := Lib.hid (fun (hl : l.length ≤ 1000) W (hW : Below w.heap.size w W) => of_any v1 l W (hs1.below hW) hn1 hl)
  have HNS : Hid (∀ x ∈ putOp (sortOps l) o, x.Small) := Lib.hid fun x hx => by
      rcases mem_putOp.1 hx with hx | ⟨rfl, _⟩
      · exact hn1 x (sort_sub hx)
      · exact h_o
  have HB0 : Hid (Below w.heap.size w (w.alloc (.cells #[.int .i64 o.stamp.t, .int .i64 o.stamp.r, .int .i64 o.kind, .int .i64 o.at_.t, .int .i64 o.at_.r, .int .i64 o.ino.t, .int .i64 o.ino.r, .int .i64 o.to.t, .int .i64 o.to.r, .string o.name, .string o.new, .int .i64 o.off, .string o.data] 47))) := Lib.hid ((New.refl w).alloc _).below
  have HSM := Lib.hid h_o
  obtain ⟨a1, c1, rfl⟩ := hs1.len
  clear hs1 hn1 h_o
  unfold Op.v
  cases hf1 : decide (l.length ≤ 60) with
  | false =>
    rw [hf1] at HF1
    clear hf1
    go_enter Tryz.func7, Tryz.ntmps7
    go_wp2_with fail
    refine (shown_any _).mono ?_
    rintro e w1 ⟨rfl, hb1⟩
    obtain ⟨hc1, hf1⟩ := bcell hb1
    have hs1 := hb1.size
    try simp only [World.size_alloc] at hs1
    try simp only [size_setCell'] at hs1
    try have le1_0 : w.heap.size ≤ w1.heap.size := (by omega)
    try have lt1_0 : w.heap.size < w1.heap.size := (by omega)
    have HB1 : Hid (Below w.heap.size w w1) := Lib.hid (Below.trans (by first | exact HB0.out | exact HB0.out.alloc HB0.out.size _ | exact (HB0.out.alloc HB0.out.size _).alloc (le_al HB0.out.size) _ | exact ((HB0.out.alloc HB0.out.size _).alloc (le_al HB0.out.size) _).alloc (le_al (le_al HB0.out.size)) _) (hb1.mono (by (try simp only [World.size_alloc]); (try simp only [size_setCell']); omega)))
    have HN1 := Lib.hid hb1
    clear hb1 hs1
    go_wp2_with (go_at_call 35; refine (HF1.out _ HB1.out).mono ?_; rintro y w' ⟨rfl, rfl⟩)
    go_ret
    exact ⟨rfl, HB1.out⟩
  | true =>
    rw [hf1] at HF1
    have HL1 : Hid (l.length ≤ 1000) := Lib.hid (by have := of_decide_eq_true hf1; omega)
    have HL9 : Hid ((sortOps l).length ≤ 999) := Lib.hid (by have := of_decide_eq_true hf1; have := sort_len l; omega)
    have HLX : Hid ((sortOps l).length ≤ 1000) := Lib.hid (Nat.le_trans (sort_len l) HL1.out)
    have HRI : Hid (RisesO (sortOps l)) := Lib.hid (sort_rises l)
    have hlaw : putB (sortOps l) o = true → placeOf (sortOps l) o = (sortOps l).length → ofOps (putOp (sortOps l) o) = (ofOps l).apply o ∧ (putOp (sortOps l) o).length = (sortOps l).length + 1 := fun hb hp => next_law l hb hp
    have hpl := place_le (sortOps l) o
    have hnot : putB (sortOps l) o = false → putOp (sortOps l) o = sortOps l := put_not
    clear hf1
    generalize hL : sortOps l = L at *
    clear hL
    cases hp : putB L o with
    | false =>
      have HP := Lib.hid hp
      clear hlaw hnot
      go_enter Tryz.func7, Tryz.ntmps7
      go_wp2_with fail
      refine (shown_any _).mono ?_
      rintro e w1 ⟨rfl, hb1⟩
      obtain ⟨hc1, hf1⟩ := bcell hb1
      have hs1 := hb1.size
      try simp only [World.size_alloc] at hs1
      try simp only [size_setCell'] at hs1
      try have le1_0 : w.heap.size ≤ w1.heap.size := (by omega)
      try have lt1_0 : w.heap.size < w1.heap.size := (by omega)
      have HB1 : Hid (Below w.heap.size w w1) := Lib.hid (Below.trans (by first | exact HB0.out | exact HB0.out.alloc HB0.out.size _ | exact (HB0.out.alloc HB0.out.size _).alloc (le_al HB0.out.size) _ | exact ((HB0.out.alloc HB0.out.size _).alloc (le_al HB0.out.size) _).alloc (le_al (le_al HB0.out.size)) _) (hb1.mono (by (try simp only [World.size_alloc]); (try simp only [size_setCell']); omega)))
      have HN1 := Lib.hid hb1
      clear hb1 hs1
      go_wp2_with (go_at_call 35; refine (HF1.out _ HB1.out).mono ?_; rintro y w' ⟨rfl, rfl⟩)
      go_wp2_with fail
      refine (HSO.out HL1.out _ (by first | exact HB1.out | exact HB1.out.alloc HB1.out.size _ | exact (HB1.out.alloc HB1.out.size _).alloc (le_al HB1.out.size) _ | exact ((HB1.out.alloc HB1.out.size _).alloc (le_al HB1.out.size) _).alloc (le_al (le_al HB1.out.size)) _ | exact HB0.out | exact HB0.out.alloc HB0.out.size _ | exact (HB0.out.alloc HB0.out.size _).alloc (le_al HB0.out.size) _ | exact ((HB0.out.alloc HB0.out.size _).alloc (le_al HB0.out.size) _).alloc (le_al (le_al HB0.out.size)) _)).mono ?_
      rintro e w2 ⟨v2, rfl, hr2, hb2⟩
      obtain ⟨hc2, hf2⟩ := bcell hb2
      have hs2 := hb2.size
      try simp only [World.size_alloc] at hs2
      try simp only [size_setCell'] at hs2
      try have le2_0 : w.heap.size ≤ w2.heap.size := (by omega)
      try have lt2_0 : w.heap.size < w2.heap.size := (by omega)
      try have le2_1 : w1.heap.size ≤ w2.heap.size := (by omega)
      try have lt2_1 : w1.heap.size < w2.heap.size := (by omega)
      have HB2 : Hid (Below w.heap.size w w2) := Lib.hid (Below.trans (by first | exact HB1.out | exact HB1.out.alloc HB1.out.size _ | exact (HB1.out.alloc HB1.out.size _).alloc (le_al HB1.out.size) _ | exact ((HB1.out.alloc HB1.out.size _).alloc (le_al HB1.out.size) _).alloc (le_al (le_al HB1.out.size)) _ | exact HB0.out | exact HB0.out.alloc HB0.out.size _ | exact (HB0.out.alloc HB0.out.size _).alloc (le_al HB0.out.size) _ | exact ((HB0.out.alloc HB0.out.size _).alloc (le_al HB0.out.size) _).alloc (le_al (le_al HB0.out.size)) _) (hb2.mono (by (try simp only [World.size_alloc]); (try simp only [size_setCell']); omega)))
      have HN2 := Lib.hid hb2
      clear hb2 hs2
      have HR2 := Lib.hid hr2
      obtain ⟨xa, xc, rfl⟩ := hr2.shape
      clear hr2
      go_wp2_with fail
      refine (put_any _ L o w2 HR2.out.sl HRI.out HLX.out HSM.out).mono ?_
      rintro e w3 ⟨v3, rfl, hn3, hy3, hb3⟩
      obtain ⟨hc3, hf3⟩ := bcell hb3
      have hs3 := hb3.size
      try simp only [World.size_alloc] at hs3
      try simp only [size_setCell'] at hs3
      try have le3_0 : w.heap.size ≤ w3.heap.size := (by omega)
      try have lt3_0 : w.heap.size < w3.heap.size := (by omega)
      try have le3_1 : w1.heap.size ≤ w3.heap.size := (by omega)
      try have lt3_1 : w1.heap.size < w3.heap.size := (by omega)
      try have le3_2 : w2.heap.size ≤ w3.heap.size := (by omega)
      try have lt3_2 : w2.heap.size < w3.heap.size := (by omega)
      have HB3 : Hid (Below w.heap.size w w3) := Lib.hid (Below.trans (by first | exact HB2.out | exact HB2.out.alloc HB2.out.size _ | exact (HB2.out.alloc HB2.out.size _).alloc (le_al HB2.out.size) _ | exact ((HB2.out.alloc HB2.out.size _).alloc (le_al HB2.out.size) _).alloc (le_al (le_al HB2.out.size)) _ | exact HB1.out | exact HB1.out.alloc HB1.out.size _ | exact (HB1.out.alloc HB1.out.size _).alloc (le_al HB1.out.size) _ | exact ((HB1.out.alloc HB1.out.size _).alloc (le_al HB1.out.size) _).alloc (le_al (le_al HB1.out.size)) _ | exact HB0.out | exact HB0.out.alloc HB0.out.size _ | exact (HB0.out.alloc HB0.out.size _).alloc (le_al HB0.out.size) _ | exact ((HB0.out.alloc HB0.out.size _).alloc (le_al HB0.out.size) _).alloc (le_al (le_al HB0.out.size)) _) (hb3.mono (by (try simp only [World.size_alloc]); (try simp only [size_setCell']); omega)))
      have HN3 := Lib.hid hb3
      clear hb3 hs3
      have HY3 := Lib.hid hy3
      clear hn3 hy3
      rw [HP.out]
      go_wp2
      go_ret
      exact ⟨rfl, HB3.out⟩
    | true =>
      have HP := Lib.hid hp
      by_cases hq : placeOf L o = L.length
      · obtain ⟨l1, l2⟩ := hlaw hp hq
        have HL2 : Hid (ofOps (putOp L o) = (ofOps l).apply o) := Lib.hid l1
        have HLY : Hid ((putOp L o).length ≤ 1001 ∧ (putOp L o).length = L.length + 1) := Lib.hid ⟨by rw [l2]; have := HLX.out; omega, l2⟩
        have hne : ((L.length : Int) != (L.length : Int)) = false := by simp
        have hlen : (((putOp L o).length : Int) == (L.length : Int) + 1) = true := by rw [l2]; simp
        have hwr : IntKind.i64.wrap ((L.length : Int) + 1) = (L.length : Int) + 1 := wrapNat (L.length + 1) (by have := HLX.out; omega)
        clear hlaw hnot hp hpl l1 l2
        generalize hP : placeOf L o = P at *
        subst hq
        go_enter Tryz.func7, Tryz.ntmps7
        go_wp2_with fail
        refine (shown_any _).mono ?_
        rintro e w1 ⟨rfl, hb1⟩
        obtain ⟨hc1, hf1⟩ := bcell hb1
        have hs1 := hb1.size
        try simp only [World.size_alloc] at hs1
        try simp only [size_setCell'] at hs1
        try have le1_0 : w.heap.size ≤ w1.heap.size := (by omega)
        try have lt1_0 : w.heap.size < w1.heap.size := (by omega)
        have HB1 : Hid (Below w.heap.size w w1) := Lib.hid (Below.trans (by first | exact HB0.out | exact HB0.out.alloc HB0.out.size _ | exact (HB0.out.alloc HB0.out.size _).alloc (le_al HB0.out.size) _ | exact ((HB0.out.alloc HB0.out.size _).alloc (le_al HB0.out.size) _).alloc (le_al (le_al HB0.out.size)) _) (hb1.mono (by (try simp only [World.size_alloc]); (try simp only [size_setCell']); omega)))
        have HN1 := Lib.hid hb1
        clear hb1 hs1
        go_wp2_with (go_at_call 35; refine (HF1.out _ HB1.out).mono ?_; rintro y w' ⟨rfl, rfl⟩)
        go_wp2_with fail
        refine (HSO.out HL1.out _ (by first | exact HB1.out | exact HB1.out.alloc HB1.out.size _ | exact (HB1.out.alloc HB1.out.size _).alloc (le_al HB1.out.size) _ | exact ((HB1.out.alloc HB1.out.size _).alloc (le_al HB1.out.size) _).alloc (le_al (le_al HB1.out.size)) _ | exact HB0.out | exact HB0.out.alloc HB0.out.size _ | exact (HB0.out.alloc HB0.out.size _).alloc (le_al HB0.out.size) _ | exact ((HB0.out.alloc HB0.out.size _).alloc (le_al HB0.out.size) _).alloc (le_al (le_al HB0.out.size)) _)).mono ?_
        rintro e w2 ⟨v2, rfl, hr2, hb2⟩
        obtain ⟨hc2, hf2⟩ := bcell hb2
        have hs2 := hb2.size
        try simp only [World.size_alloc] at hs2
        try simp only [size_setCell'] at hs2
        try have le2_0 : w.heap.size ≤ w2.heap.size := (by omega)
        try have lt2_0 : w.heap.size < w2.heap.size := (by omega)
        try have le2_1 : w1.heap.size ≤ w2.heap.size := (by omega)
        try have lt2_1 : w1.heap.size < w2.heap.size := (by omega)
        have HB2 : Hid (Below w.heap.size w w2) := Lib.hid (Below.trans (by first | exact HB1.out | exact HB1.out.alloc HB1.out.size _ | exact (HB1.out.alloc HB1.out.size _).alloc (le_al HB1.out.size) _ | exact ((HB1.out.alloc HB1.out.size _).alloc (le_al HB1.out.size) _).alloc (le_al (le_al HB1.out.size)) _ | exact HB0.out | exact HB0.out.alloc HB0.out.size _ | exact (HB0.out.alloc HB0.out.size _).alloc (le_al HB0.out.size) _ | exact ((HB0.out.alloc HB0.out.size _).alloc (le_al HB0.out.size) _).alloc (le_al (le_al HB0.out.size)) _) (hb2.mono (by (try simp only [World.size_alloc]); (try simp only [size_setCell']); omega)))
        have HN2 := Lib.hid hb2
        clear hb2 hs2
        have HR2 := Lib.hid hr2
        obtain ⟨xa, xc, rfl⟩ := hr2.shape
        clear hr2
        go_wp2_with fail
        refine (put_any _ L o w2 HR2.out.sl HRI.out HLX.out HSM.out).mono ?_
        rintro e w3 ⟨v3, rfl, hn3, hy3, hb3⟩
        obtain ⟨hc3, hf3⟩ := bcell hb3
        have hs3 := hb3.size
        try simp only [World.size_alloc] at hs3
        try simp only [size_setCell'] at hs3
        try have le3_0 : w.heap.size ≤ w3.heap.size := (by omega)
        try have lt3_0 : w.heap.size < w3.heap.size := (by omega)
        try have le3_1 : w1.heap.size ≤ w3.heap.size := (by omega)
        try have lt3_1 : w1.heap.size < w3.heap.size := (by omega)
        try have le3_2 : w2.heap.size ≤ w3.heap.size := (by omega)
        try have lt3_2 : w2.heap.size < w3.heap.size := (by omega)
        have HB3 : Hid (Below w.heap.size w w3) := Lib.hid (Below.trans (by first | exact HB2.out | exact HB2.out.alloc HB2.out.size _ | exact (HB2.out.alloc HB2.out.size _).alloc (le_al HB2.out.size) _ | exact ((HB2.out.alloc HB2.out.size _).alloc (le_al HB2.out.size) _).alloc (le_al (le_al HB2.out.size)) _ | exact HB1.out | exact HB1.out.alloc HB1.out.size _ | exact (HB1.out.alloc HB1.out.size _).alloc (le_al HB1.out.size) _ | exact ((HB1.out.alloc HB1.out.size _).alloc (le_al HB1.out.size) _).alloc (le_al (le_al HB1.out.size)) _ | exact HB0.out | exact HB0.out.alloc HB0.out.size _ | exact (HB0.out.alloc HB0.out.size _).alloc (le_al HB0.out.size) _ | exact ((HB0.out.alloc HB0.out.size _).alloc (le_al HB0.out.size) _).alloc (le_al (le_al HB0.out.size)) _) (hb3.mono (by (try simp only [World.size_alloc]); (try simp only [size_setCell']); omega)))
        have HN3 := Lib.hid hb3
        clear hb3 hs3
        have HY3 := Lib.hid hy3
        clear hn3 hy3
        rw [HP.out]
        have HY3' := Lib.hid (HY3.out HP.out)
        obtain ⟨ya, yc, rfl⟩ := (show OpsRow _ v3 (putOp L o) w3 from HY3'.out).shape
        go_wp2_with fail
        refine (HOF.out HL1.out _ (by first | exact HB3.out | exact HB3.out.alloc HB3.out.size _ | exact (HB3.out.alloc HB3.out.size _).alloc (le_al HB3.out.size) _ | exact ((HB3.out.alloc HB3.out.size _).alloc (le_al HB3.out.size) _).alloc (le_al (le_al HB3.out.size)) _ | exact HB2.out | exact HB2.out.alloc HB2.out.size _ | exact (HB2.out.alloc HB2.out.size _).alloc (le_al HB2.out.size) _ | exact ((HB2.out.alloc HB2.out.size _).alloc (le_al HB2.out.size) _).alloc (le_al (le_al HB2.out.size)) _ | exact HB1.out | exact HB1.out.alloc HB1.out.size _ | exact (HB1.out.alloc HB1.out.size _).alloc (le_al HB1.out.size) _ | exact ((HB1.out.alloc HB1.out.size _).alloc (le_al HB1.out.size) _).alloc (le_al (le_al HB1.out.size)) _ | exact HB0.out | exact HB0.out.alloc HB0.out.size _ | exact (HB0.out.alloc HB0.out.size _).alloc (le_al HB0.out.size) _ | exact ((HB0.out.alloc HB0.out.size _).alloc (le_al HB0.out.size) _).alloc (le_al (le_al HB0.out.size)) _)).mono ?_
        rintro e w4 ⟨v4, rfl, ⟨gb, mI, mE, rfl, hG4, q1, q2, q3⟩, hb4⟩
        obtain ⟨hc4, hf4⟩ := bcell hb4
        have hs4 := hb4.size
        try simp only [World.size_alloc] at hs4
        try simp only [size_setCell'] at hs4
        try have le4_0 : w.heap.size ≤ w4.heap.size := (by omega)
        try have lt4_0 : w.heap.size < w4.heap.size := (by omega)
        try have le4_1 : w1.heap.size ≤ w4.heap.size := (by omega)
        try have lt4_1 : w1.heap.size < w4.heap.size := (by omega)
        try have le4_2 : w2.heap.size ≤ w4.heap.size := (by omega)
        try have lt4_2 : w2.heap.size < w4.heap.size := (by omega)
        try have le4_3 : w3.heap.size ≤ w4.heap.size := (by omega)
        try have lt4_3 : w3.heap.size < w4.heap.size := (by omega)
        have HB4 : Hid (Below w.heap.size w w4) := Lib.hid (Below.trans (by first | exact HB3.out | exact HB3.out.alloc HB3.out.size _ | exact (HB3.out.alloc HB3.out.size _).alloc (le_al HB3.out.size) _ | exact ((HB3.out.alloc HB3.out.size _).alloc (le_al HB3.out.size) _).alloc (le_al (le_al HB3.out.size)) _ | exact HB2.out | exact HB2.out.alloc HB2.out.size _ | exact (HB2.out.alloc HB2.out.size _).alloc (le_al HB2.out.size) _ | exact ((HB2.out.alloc HB2.out.size _).alloc (le_al HB2.out.size) _).alloc (le_al (le_al HB2.out.size)) _ | exact HB1.out | exact HB1.out.alloc HB1.out.size _ | exact (HB1.out.alloc HB1.out.size _).alloc (le_al HB1.out.size) _ | exact ((HB1.out.alloc HB1.out.size _).alloc (le_al HB1.out.size) _).alloc (le_al (le_al HB1.out.size)) _ | exact HB0.out | exact HB0.out.alloc HB0.out.size _ | exact (HB0.out.alloc HB0.out.size _).alloc (le_al HB0.out.size) _ | exact ((HB0.out.alloc HB0.out.size _).alloc (le_al HB0.out.size) _).alloc (le_al (le_al HB0.out.size)) _) (hb4.mono (by (try simp only [World.size_alloc]); (try simp only [size_setCell']); omega)))
        have HN4 := Lib.hid hb4
        clear hb4 hs4
        have HG4 := Lib.hid hG4
        have HS4 := Lib.hid ((show OpsRow _ _ (putOp L o) w3 from HY3'.out).sl.below HN4.out)
        have z1 : w.heap.size ≤ mI := Nat.le_trans HB3.out.size q2
        have z2 : w.heap.size ≤ mE := Nat.le_trans HB3.out.size q3
        clear hG4 q1 q2 q3
        go_wp2_with fail
        refine (why_any gb (ofOps l) o w4 (HG4.out.reads (ofOps_ok _) (by have := (ofOps_ok l).few; omega)) HSM.out).mono ?_
        rintro e w5 ⟨rfl, hb5⟩
        obtain ⟨hc5, hf5⟩ := bcell hb5
        have hs5 := hb5.size
        try simp only [World.size_alloc] at hs5
        try simp only [size_setCell'] at hs5
        try have le5_0 : w.heap.size ≤ w5.heap.size := (by omega)
        try have lt5_0 : w.heap.size < w5.heap.size := (by omega)
        try have le5_1 : w1.heap.size ≤ w5.heap.size := (by omega)
        try have lt5_1 : w1.heap.size < w5.heap.size := (by omega)
        try have le5_2 : w2.heap.size ≤ w5.heap.size := (by omega)
        try have lt5_2 : w2.heap.size < w5.heap.size := (by omega)
        try have le5_3 : w3.heap.size ≤ w5.heap.size := (by omega)
        try have lt5_3 : w3.heap.size < w5.heap.size := (by omega)
        try have le5_4 : w4.heap.size ≤ w5.heap.size := (by omega)
        try have lt5_4 : w4.heap.size < w5.heap.size := (by omega)
        have HB5 : Hid (Below w.heap.size w w5) := Lib.hid (Below.trans (by first | exact HB4.out | exact HB4.out.alloc HB4.out.size _ | exact (HB4.out.alloc HB4.out.size _).alloc (le_al HB4.out.size) _ | exact ((HB4.out.alloc HB4.out.size _).alloc (le_al HB4.out.size) _).alloc (le_al (le_al HB4.out.size)) _ | exact HB3.out | exact HB3.out.alloc HB3.out.size _ | exact (HB3.out.alloc HB3.out.size _).alloc (le_al HB3.out.size) _ | exact ((HB3.out.alloc HB3.out.size _).alloc (le_al HB3.out.size) _).alloc (le_al (le_al HB3.out.size)) _ | exact HB2.out | exact HB2.out.alloc HB2.out.size _ | exact (HB2.out.alloc HB2.out.size _).alloc (le_al HB2.out.size) _ | exact ((HB2.out.alloc HB2.out.size _).alloc (le_al HB2.out.size) _).alloc (le_al (le_al HB2.out.size)) _ | exact HB1.out | exact HB1.out.alloc HB1.out.size _ | exact (HB1.out.alloc HB1.out.size _).alloc (le_al HB1.out.size) _ | exact ((HB1.out.alloc HB1.out.size _).alloc (le_al HB1.out.size) _).alloc (le_al (le_al HB1.out.size)) _ | exact HB0.out | exact HB0.out.alloc HB0.out.size _ | exact (HB0.out.alloc HB0.out.size _).alloc (le_al HB0.out.size) _ | exact ((HB0.out.alloc HB0.out.size _).alloc (le_al HB0.out.size) _).alloc (le_al (le_al HB0.out.size)) _) (hb5.mono (by (try simp only [World.size_alloc]); (try simp only [size_setCell']); omega)))
        have HN5 := Lib.hid hb5
        clear hb5 hs5
        have HG5 := Lib.hid (HG4.out.below HN5.out)
        have HS5 := Lib.hid (HS4.out.below HN5.out)
        go_wp2_with fail
        refine (apply_any gb mI mE (ofOps l) o w5 HG5.out (ofOps_ok _) (ofOps_thin _) HSM.out).mono ?_
        rintro e w6 ⟨rfl, hG6, hb6⟩
        obtain ⟨hc6, hf6⟩ := tcell hb6
        have hs6 := hb6.size
        try simp only [World.size_alloc] at hs6
        try simp only [size_setCell'] at hs6
        try have le6_0 : w.heap.size ≤ w6.heap.size := (by omega)
        try have lt6_0 : w.heap.size < w6.heap.size := (by omega)
        try have le6_1 : w1.heap.size ≤ w6.heap.size := (by omega)
        try have lt6_1 : w1.heap.size < w6.heap.size := (by omega)
        try have le6_2 : w2.heap.size ≤ w6.heap.size := (by omega)
        try have lt6_2 : w2.heap.size < w6.heap.size := (by omega)
        try have le6_3 : w3.heap.size ≤ w6.heap.size := (by omega)
        try have lt6_3 : w3.heap.size < w6.heap.size := (by omega)
        try have le6_4 : w4.heap.size ≤ w6.heap.size := (by omega)
        try have lt6_4 : w4.heap.size < w6.heap.size := (by omega)
        try have le6_5 : w5.heap.size ≤ w6.heap.size := (by omega)
        try have lt6_5 : w5.heap.size < w6.heap.size := (by omega)
        have HB6 : Hid (Below w.heap.size w w6) := Lib.hid (Below.trans (by first | exact HB5.out | exact HB5.out.alloc HB5.out.size _ | exact (HB5.out.alloc HB5.out.size _).alloc (le_al HB5.out.size) _ | exact ((HB5.out.alloc HB5.out.size _).alloc (le_al HB5.out.size) _).alloc (le_al (le_al HB5.out.size)) _ | exact HB4.out | exact HB4.out.alloc HB4.out.size _ | exact (HB4.out.alloc HB4.out.size _).alloc (le_al HB4.out.size) _ | exact ((HB4.out.alloc HB4.out.size _).alloc (le_al HB4.out.size) _).alloc (le_al (le_al HB4.out.size)) _ | exact HB3.out | exact HB3.out.alloc HB3.out.size _ | exact (HB3.out.alloc HB3.out.size _).alloc (le_al HB3.out.size) _ | exact ((HB3.out.alloc HB3.out.size _).alloc (le_al HB3.out.size) _).alloc (le_al (le_al HB3.out.size)) _ | exact HB2.out | exact HB2.out.alloc HB2.out.size _ | exact (HB2.out.alloc HB2.out.size _).alloc (le_al HB2.out.size) _ | exact ((HB2.out.alloc HB2.out.size _).alloc (le_al HB2.out.size) _).alloc (le_al (le_al HB2.out.size)) _ | exact HB1.out | exact HB1.out.alloc HB1.out.size _ | exact (HB1.out.alloc HB1.out.size _).alloc (le_al HB1.out.size) _ | exact ((HB1.out.alloc HB1.out.size _).alloc (le_al HB1.out.size) _).alloc (le_al (le_al HB1.out.size)) _ | exact HB0.out | exact HB0.out.alloc HB0.out.size _ | exact (HB0.out.alloc HB0.out.size _).alloc (le_al HB0.out.size) _ | exact ((HB0.out.alloc HB0.out.size _).alloc (le_al HB0.out.size) _).alloc (le_al (le_al HB0.out.size)) _) (own_below hb6 z1 z2 (by (try simp only [World.size_alloc]); (try simp only [size_setCell']); omega)))
        have HN6 := Lib.hid hb6
        clear hb6 hs6
        have HG6 := Lib.hid hG6
        have HS6 := Lib.hid (HS5.out.turn HN6.out)
        clear hG6
        go_wp2_with fail
        refine (of_any _ (putOp L o) w6 HS6.out HNS.out (by have := HLY.out; have := HL9.out; omega)).mono ?_
        rintro e w7 ⟨v7, rfl, ⟨g7, i7, e7, rfl, hG7, _, _, _⟩, hb7⟩
        obtain ⟨hc7, hf7⟩ := bcell hb7
        have hs7 := hb7.size
        try simp only [World.size_alloc] at hs7
        try simp only [size_setCell'] at hs7
        try have le7_0 : w.heap.size ≤ w7.heap.size := (by omega)
        try have lt7_0 : w.heap.size < w7.heap.size := (by omega)
        try have le7_1 : w1.heap.size ≤ w7.heap.size := (by omega)
        try have lt7_1 : w1.heap.size < w7.heap.size := (by omega)
        try have le7_2 : w2.heap.size ≤ w7.heap.size := (by omega)
        try have lt7_2 : w2.heap.size < w7.heap.size := (by omega)
        try have le7_3 : w3.heap.size ≤ w7.heap.size := (by omega)
        try have lt7_3 : w3.heap.size < w7.heap.size := (by omega)
        try have le7_4 : w4.heap.size ≤ w7.heap.size := (by omega)
        try have lt7_4 : w4.heap.size < w7.heap.size := (by omega)
        try have le7_5 : w5.heap.size ≤ w7.heap.size := (by omega)
        try have lt7_5 : w5.heap.size < w7.heap.size := (by omega)
        try have le7_6 : w6.heap.size ≤ w7.heap.size := (by omega)
        try have lt7_6 : w6.heap.size < w7.heap.size := (by omega)
        have HB7 : Hid (Below w.heap.size w w7) := Lib.hid (Below.trans (by first | exact HB6.out | exact HB6.out.alloc HB6.out.size _ | exact (HB6.out.alloc HB6.out.size _).alloc (le_al HB6.out.size) _ | exact ((HB6.out.alloc HB6.out.size _).alloc (le_al HB6.out.size) _).alloc (le_al (le_al HB6.out.size)) _ | exact HB5.out | exact HB5.out.alloc HB5.out.size _ | exact (HB5.out.alloc HB5.out.size _).alloc (le_al HB5.out.size) _ | exact ((HB5.out.alloc HB5.out.size _).alloc (le_al HB5.out.size) _).alloc (le_al (le_al HB5.out.size)) _ | exact HB4.out | exact HB4.out.alloc HB4.out.size _ | exact (HB4.out.alloc HB4.out.size _).alloc (le_al HB4.out.size) _ | exact ((HB4.out.alloc HB4.out.size _).alloc (le_al HB4.out.size) _).alloc (le_al (le_al HB4.out.size)) _ | exact HB3.out | exact HB3.out.alloc HB3.out.size _ | exact (HB3.out.alloc HB3.out.size _).alloc (le_al HB3.out.size) _ | exact ((HB3.out.alloc HB3.out.size _).alloc (le_al HB3.out.size) _).alloc (le_al (le_al HB3.out.size)) _ | exact HB2.out | exact HB2.out.alloc HB2.out.size _ | exact (HB2.out.alloc HB2.out.size _).alloc (le_al HB2.out.size) _ | exact ((HB2.out.alloc HB2.out.size _).alloc (le_al HB2.out.size) _).alloc (le_al (le_al HB2.out.size)) _ | exact HB1.out | exact HB1.out.alloc HB1.out.size _ | exact (HB1.out.alloc HB1.out.size _).alloc (le_al HB1.out.size) _ | exact ((HB1.out.alloc HB1.out.size _).alloc (le_al HB1.out.size) _).alloc (le_al (le_al HB1.out.size)) _ | exact HB0.out | exact HB0.out.alloc HB0.out.size _ | exact (HB0.out.alloc HB0.out.size _).alloc (le_al HB0.out.size) _ | exact ((HB0.out.alloc HB0.out.size _).alloc (le_al HB0.out.size) _).alloc (le_al (le_al HB0.out.size)) _) (hb7.mono (by (try simp only [World.size_alloc]); (try simp only [size_setCell']); omega)))
        have HN7 := Lib.hid hb7
        clear hb7 hs7
        rw [HL2.out] at hG7
        have HG7 := Lib.hid hG7
        have HG6a := Lib.hid (HG6.out.below HN7.out)
        clear hG7
        go_wp2_with fail
        refine (same_any gb g7 _ w7 ((ofOps_ok l).apply o) (HG6a.out.reads ((ofOps_ok _).apply o) (by have := ((ofOps_ok l).apply o).few; omega)) (HG7.out.reads ((ofOps_ok _).apply o) (by have := ((ofOps_ok l).apply o).few; omega))).mono ?_
        rintro e w8 ⟨rfl, hb8⟩
        obtain ⟨hc8, hf8⟩ := bcell hb8
        have hs8 := hb8.size
        try simp only [World.size_alloc] at hs8
        try simp only [size_setCell'] at hs8
        try have le8_0 : w.heap.size ≤ w8.heap.size := (by omega)
        try have lt8_0 : w.heap.size < w8.heap.size := (by omega)
        try have le8_1 : w1.heap.size ≤ w8.heap.size := (by omega)
        try have lt8_1 : w1.heap.size < w8.heap.size := (by omega)
        try have le8_2 : w2.heap.size ≤ w8.heap.size := (by omega)
        try have lt8_2 : w2.heap.size < w8.heap.size := (by omega)
        try have le8_3 : w3.heap.size ≤ w8.heap.size := (by omega)
        try have lt8_3 : w3.heap.size < w8.heap.size := (by omega)
        try have le8_4 : w4.heap.size ≤ w8.heap.size := (by omega)
        try have lt8_4 : w4.heap.size < w8.heap.size := (by omega)
        try have le8_5 : w5.heap.size ≤ w8.heap.size := (by omega)
        try have lt8_5 : w5.heap.size < w8.heap.size := (by omega)
        try have le8_6 : w6.heap.size ≤ w8.heap.size := (by omega)
        try have lt8_6 : w6.heap.size < w8.heap.size := (by omega)
        try have le8_7 : w7.heap.size ≤ w8.heap.size := (by omega)
        try have lt8_7 : w7.heap.size < w8.heap.size := (by omega)
        have HB8 : Hid (Below w.heap.size w w8) := Lib.hid (Below.trans (by first | exact HB7.out | exact HB7.out.alloc HB7.out.size _ | exact (HB7.out.alloc HB7.out.size _).alloc (le_al HB7.out.size) _ | exact ((HB7.out.alloc HB7.out.size _).alloc (le_al HB7.out.size) _).alloc (le_al (le_al HB7.out.size)) _ | exact HB6.out | exact HB6.out.alloc HB6.out.size _ | exact (HB6.out.alloc HB6.out.size _).alloc (le_al HB6.out.size) _ | exact ((HB6.out.alloc HB6.out.size _).alloc (le_al HB6.out.size) _).alloc (le_al (le_al HB6.out.size)) _ | exact HB5.out | exact HB5.out.alloc HB5.out.size _ | exact (HB5.out.alloc HB5.out.size _).alloc (le_al HB5.out.size) _ | exact ((HB5.out.alloc HB5.out.size _).alloc (le_al HB5.out.size) _).alloc (le_al (le_al HB5.out.size)) _ | exact HB4.out | exact HB4.out.alloc HB4.out.size _ | exact (HB4.out.alloc HB4.out.size _).alloc (le_al HB4.out.size) _ | exact ((HB4.out.alloc HB4.out.size _).alloc (le_al HB4.out.size) _).alloc (le_al (le_al HB4.out.size)) _ | exact HB3.out | exact HB3.out.alloc HB3.out.size _ | exact (HB3.out.alloc HB3.out.size _).alloc (le_al HB3.out.size) _ | exact ((HB3.out.alloc HB3.out.size _).alloc (le_al HB3.out.size) _).alloc (le_al (le_al HB3.out.size)) _ | exact HB2.out | exact HB2.out.alloc HB2.out.size _ | exact (HB2.out.alloc HB2.out.size _).alloc (le_al HB2.out.size) _ | exact ((HB2.out.alloc HB2.out.size _).alloc (le_al HB2.out.size) _).alloc (le_al (le_al HB2.out.size)) _ | exact HB1.out | exact HB1.out.alloc HB1.out.size _ | exact (HB1.out.alloc HB1.out.size _).alloc (le_al HB1.out.size) _ | exact ((HB1.out.alloc HB1.out.size _).alloc (le_al HB1.out.size) _).alloc (le_al (le_al HB1.out.size)) _ | exact HB0.out | exact HB0.out.alloc HB0.out.size _ | exact (HB0.out.alloc HB0.out.size _).alloc (le_al HB0.out.size) _ | exact ((HB0.out.alloc HB0.out.size _).alloc (le_al HB0.out.size) _).alloc (le_al (le_al HB0.out.size)) _) (hb8.mono (by (try simp only [World.size_alloc]); (try simp only [size_setCell']); omega)))
        have HN8 := Lib.hid hb8
        clear hb8 hs8
        go_wp2
        go_ret
        exact ⟨by first | rfl | simp [*], HB8.out⟩
      · have hne : ((placeOf L o : Int) != (L.length : Int)) = true := by simp; omega
        clear hlaw hnot hp
        go_enter Tryz.func7, Tryz.ntmps7
        go_wp2_with fail
        refine (shown_any _).mono ?_
        rintro e w1 ⟨rfl, hb1⟩
        obtain ⟨hc1, hf1⟩ := bcell hb1
        have hs1 := hb1.size
        try simp only [World.size_alloc] at hs1
        try simp only [size_setCell'] at hs1
        try have le1_0 : w.heap.size ≤ w1.heap.size := (by omega)
        try have lt1_0 : w.heap.size < w1.heap.size := (by omega)
        have HB1 : Hid (Below w.heap.size w w1) := Lib.hid (Below.trans (by first | exact HB0.out | exact HB0.out.alloc HB0.out.size _ | exact (HB0.out.alloc HB0.out.size _).alloc (le_al HB0.out.size) _ | exact ((HB0.out.alloc HB0.out.size _).alloc (le_al HB0.out.size) _).alloc (le_al (le_al HB0.out.size)) _) (hb1.mono (by (try simp only [World.size_alloc]); (try simp only [size_setCell']); omega)))
        have HN1 := Lib.hid hb1
        clear hb1 hs1
        go_wp2_with (go_at_call 35; refine (HF1.out _ HB1.out).mono ?_; rintro y w' ⟨rfl, rfl⟩)
        go_wp2_with fail
        refine (HSO.out HL1.out _ (by first | exact HB1.out | exact HB1.out.alloc HB1.out.size _ | exact (HB1.out.alloc HB1.out.size _).alloc (le_al HB1.out.size) _ | exact ((HB1.out.alloc HB1.out.size _).alloc (le_al HB1.out.size) _).alloc (le_al (le_al HB1.out.size)) _ | exact HB0.out | exact HB0.out.alloc HB0.out.size _ | exact (HB0.out.alloc HB0.out.size _).alloc (le_al HB0.out.size) _ | exact ((HB0.out.alloc HB0.out.size _).alloc (le_al HB0.out.size) _).alloc (le_al (le_al HB0.out.size)) _)).mono ?_
        rintro e w2 ⟨v2, rfl, hr2, hb2⟩
        obtain ⟨hc2, hf2⟩ := bcell hb2
        have hs2 := hb2.size
        try simp only [World.size_alloc] at hs2
        try simp only [size_setCell'] at hs2
        try have le2_0 : w.heap.size ≤ w2.heap.size := (by omega)
        try have lt2_0 : w.heap.size < w2.heap.size := (by omega)
        try have le2_1 : w1.heap.size ≤ w2.heap.size := (by omega)
        try have lt2_1 : w1.heap.size < w2.heap.size := (by omega)
        have HB2 : Hid (Below w.heap.size w w2) := Lib.hid (Below.trans (by first | exact HB1.out | exact HB1.out.alloc HB1.out.size _ | exact (HB1.out.alloc HB1.out.size _).alloc (le_al HB1.out.size) _ | exact ((HB1.out.alloc HB1.out.size _).alloc (le_al HB1.out.size) _).alloc (le_al (le_al HB1.out.size)) _ | exact HB0.out | exact HB0.out.alloc HB0.out.size _ | exact (HB0.out.alloc HB0.out.size _).alloc (le_al HB0.out.size) _ | exact ((HB0.out.alloc HB0.out.size _).alloc (le_al HB0.out.size) _).alloc (le_al (le_al HB0.out.size)) _) (hb2.mono (by (try simp only [World.size_alloc]); (try simp only [size_setCell']); omega)))
        have HN2 := Lib.hid hb2
        clear hb2 hs2
        have HR2 := Lib.hid hr2
        obtain ⟨xa, xc, rfl⟩ := hr2.shape
        clear hr2
        go_wp2_with fail
        refine (put_any _ L o w2 HR2.out.sl HRI.out HLX.out HSM.out).mono ?_
        rintro e w3 ⟨v3, rfl, hn3, hy3, hb3⟩
        obtain ⟨hc3, hf3⟩ := bcell hb3
        have hs3 := hb3.size
        try simp only [World.size_alloc] at hs3
        try simp only [size_setCell'] at hs3
        try have le3_0 : w.heap.size ≤ w3.heap.size := (by omega)
        try have lt3_0 : w.heap.size < w3.heap.size := (by omega)
        try have le3_1 : w1.heap.size ≤ w3.heap.size := (by omega)
        try have lt3_1 : w1.heap.size < w3.heap.size := (by omega)
        try have le3_2 : w2.heap.size ≤ w3.heap.size := (by omega)
        try have lt3_2 : w2.heap.size < w3.heap.size := (by omega)
        have HB3 : Hid (Below w.heap.size w w3) := Lib.hid (Below.trans (by first | exact HB2.out | exact HB2.out.alloc HB2.out.size _ | exact (HB2.out.alloc HB2.out.size _).alloc (le_al HB2.out.size) _ | exact ((HB2.out.alloc HB2.out.size _).alloc (le_al HB2.out.size) _).alloc (le_al (le_al HB2.out.size)) _ | exact HB1.out | exact HB1.out.alloc HB1.out.size _ | exact (HB1.out.alloc HB1.out.size _).alloc (le_al HB1.out.size) _ | exact ((HB1.out.alloc HB1.out.size _).alloc (le_al HB1.out.size) _).alloc (le_al (le_al HB1.out.size)) _ | exact HB0.out | exact HB0.out.alloc HB0.out.size _ | exact (HB0.out.alloc HB0.out.size _).alloc (le_al HB0.out.size) _ | exact ((HB0.out.alloc HB0.out.size _).alloc (le_al HB0.out.size) _).alloc (le_al (le_al HB0.out.size)) _) (hb3.mono (by (try simp only [World.size_alloc]); (try simp only [size_setCell']); omega)))
        have HN3 := Lib.hid hb3
        clear hb3 hs3
        have HY3 := Lib.hid hy3
        clear hn3 hy3
        rw [HP.out]
        go_wp2
        go_ret
        exact ⟨rfl, HB3.out⟩
end Go.Proofs.YtlokljaeknmdpaaGreat.L13
