/-
  thimblelaw10.AuditGraph: what graphs tell is in order, has its shape, loses nothing, and counts right; no condition but the texts' reach.
-/
import Derived.Test.YtlokljaeknmdpaaGreatQAudJ
import Derived.Test.YtlokljaeknmdpaaGreatKOps
import Derived.Test.YtlokljaeknmdpaaGreatQOpenU
import Derived.Test.YtlokljaeknmdpaaGreatKDeed
import Derived.Test.YtlokljaeknmdpaaGreatQReads
import Derived.Deep.RegionHeld3
namespace Go.Proofs.YtlokljaeknmdpaaGreat.L10
open Go.RowKit Go.Shelf Go.Proofs

/-- what is wrong of a graph in order is only what is many, apart, or beyond its bounds -/
theorem faults_high {g : Gr} (h : g.Ok) : ∀ z ∈ faults g.n g.e, 5 ≤ z := by
  intro z hz
  unfold faults faultsOf at hz
  obtain ⟨i, hi, hf⟩ := List.mem_filterMap.1 hz
  have hi7 : i < 7 := List.mem_range.1 hi
  unfold checksOf at hf
  rw [h.order, h.shape, h.lost, h.counted] at hf
  match i, hi7 with
  | 0, _ => simp at hf
  | 1, _ => simp at hf
  | 2, _ => simp at hf
  | 3, _ => simp at hf
  | n + 4, _ =>
    split at hf
    · cases hf
    · simp only [Option.some.injEq] at hf
      omega
theorem faults_few (n : List Ino) (e : List Ent) : (faults n e).length ≤ 7 := by
  unfold faults faultsOf
  exact Nat.le_trans (List.length_filterMap_le _ _) (by simp)
theorem i64_map (l : List Int) : l.flatMap I64.cells = l.map intV := by
  induction l with
  | nil => rfl
  | cons a l ih => rw [List.flatMap_cons, List.map_cons, ih]; rfl
theorem name_small10 {s : ByteArray} (h : nameOk s = true) : s.size ≤ maxLen := by
  unfold nameOk at h
  simp only [Bool.and_eq_true, decide_eq_true_eq] at h
  unfold maxLen; omega
theorem turn_drew (S : Nat → Prop) (w : World) : Turn S w w.drew := (New.refl w).drew.turn S

set_option maxRecDepth 100000 in
set_option maxHeartbeats 8000000 in
theorem graph_ids_es (v1 : Value) (ids : List St) (v2 : Value) (kinds : List Int) (v3 : Value) (es : List Ent) (w : World) (hs1 : SlAt w 2 St.cells v1 ids) (_hn1 : ∀ z ∈ ids, True) (hs2 : SlAt w 1 I64.cells v2 kinds) (_hn2 : ∀ z ∈ kinds, True) (hs3 : SlAt w 5 Ent.cells v3 es) (hn3 : ∀ z ∈ es, z.name.size ≤ maxLen) (hA : ids.length ≤ kinds.length) (hA2 : ids.length ≤ 100) (hB : es.length ≤ 100) :
    Calls Tryz.prog 3 #[v1, v2, v3] w fun y w' => y = .returned (.bool true) ∧ Below w.heap.size w w' := by
  have HS1 : Hid (∀ W, Below w.heap.size w W → SlAt W 2 St.cells v1 ids) := Lib.hid fun W hW => hs1.below hW
  have HS2 : Hid (∀ W, Below w.heap.size w W → SlAt W 1 I64.cells v2 kinds) := Lib.hid fun W hW => hs2.below hW
  have HS3 : Hid (∀ W, Below w.heap.size w W → SlAt W 5 Ent.cells v3 es) := Lib.hid fun W hW => hs3.below hW
  have HN := Lib.hid hn3
  have HB0 : Hid (Below w.heap.size w w) := Lib.hid (Below.refl _ _)
  obtain ⟨a1, c1_, rfl⟩ := hs1.len
  obtain ⟨a2, c2_, rfl⟩ := hs2.len
  obtain ⟨a3, c3_, rfl⟩ := hs3.len
  clear hs1 hs2 hs3 hn3 _hn1 _hn2
  go_enter Tryz.func3, Tryz.ntmps3
  go_wp2_with fail
  refine (shown_any _).mono ?_
  rintro e w1 ⟨rfl, hb1⟩
  obtain ⟨hc1, hf1⟩ := bcell hb1
  have hs1 := hb1.size
  try simp only [size_drew] at hs1
  try simp only [World.size_alloc] at hs1
  try simp only [size_setCell'] at hs1
  try have le1_0 : w.heap.size ≤ w1.heap.size := (by omega)
  try have lt1_0 : w.heap.size < w1.heap.size := (by omega)
  have HB1 : Hid (Below w.heap.size w w1) := Lib.hid (Below.trans (by first | exact HB0.out | exact HB0.out.alloc HB0.out.size _ | exact (HB0.out.alloc HB0.out.size _).alloc (le_al HB0.out.size) _ | exact ((HB0.out.alloc HB0.out.size _).alloc (le_al HB0.out.size) _).alloc (le_al (le_al HB0.out.size)) _ | exact HB0.out.drew | exact (HB0.out.alloc HB0.out.size _).drew | exact ((HB0.out.alloc HB0.out.size _).alloc (le_al HB0.out.size) _).drew) (hb1.mono (by (try simp only [size_drew]); (try simp only [World.size_alloc]); (try simp only [size_setCell']); omega)))
  have HN1 := Lib.hid hb1
  clear hb1 hs1
  go_wp2_with fail
  refine (new_g _).mono ?_
  rintro e w2 ⟨v2', rfl, ⟨gb, mI, mE, rfl, hG2, q1, q2, q3⟩, hb2⟩
  obtain ⟨hc2, hf2⟩ := bcell hb2
  have hs2 := hb2.size
  try simp only [size_drew] at hs2
  try simp only [World.size_alloc] at hs2
  try simp only [size_setCell'] at hs2
  try have le2_0 : w.heap.size ≤ w2.heap.size := (by omega)
  try have lt2_0 : w.heap.size < w2.heap.size := (by omega)
  try have le2_1 : w1.heap.size ≤ w2.heap.size := (by omega)
  try have lt2_1 : w1.heap.size < w2.heap.size := (by omega)
  have HB2 : Hid (Below w.heap.size w w2) := Lib.hid (Below.trans (by first | exact HB1.out | exact HB1.out.alloc HB1.out.size _ | exact (HB1.out.alloc HB1.out.size _).alloc (le_al HB1.out.size) _ | exact ((HB1.out.alloc HB1.out.size _).alloc (le_al HB1.out.size) _).alloc (le_al (le_al HB1.out.size)) _ | exact HB1.out.drew | exact (HB1.out.alloc HB1.out.size _).drew | exact ((HB1.out.alloc HB1.out.size _).alloc (le_al HB1.out.size) _).drew | exact HB0.out | exact HB0.out.alloc HB0.out.size _ | exact (HB0.out.alloc HB0.out.size _).alloc (le_al HB0.out.size) _ | exact ((HB0.out.alloc HB0.out.size _).alloc (le_al HB0.out.size) _).alloc (le_al (le_al HB0.out.size)) _ | exact HB0.out.drew | exact (HB0.out.alloc HB0.out.size _).drew | exact ((HB0.out.alloc HB0.out.size _).alloc (le_al HB0.out.size) _).drew) (hb2.mono (by (try simp only [size_drew]); (try simp only [World.size_alloc]); (try simp only [size_setCell']); omega)))
  have HN2 := Lib.hid hb2
  clear hb2 hs2
  have HG2 := Lib.hid hG2
  have HMM : Hid (w.heap.size ≤ mI ∧ w.heap.size ≤ mE) := Lib.hid ⟨Nat.le_trans HB1.out.size q2, Nat.le_trans HB1.out.size q3⟩
  clear hG2 q1 q2 q3
  go_wp2
  go_loopg [9] ids.length (fun gg s9 wr => ∃ i : Nat, s9 = .int .i64 i ∧ i ≤ ids.length ∧ ids.length - i ≤ gg ∧ Aside (∃ G : Gr, G.Ok ∧ GrAt wr gb mI mE G) ∧ Aside (Below w.heap.size w wr))
  case atStart => exact ⟨0, rfl, Nat.zero_le _, by omega, (show Aside _ from ⟨Gr.new, Gr.Ok.new, HG2.out⟩), (show Aside _ from HB2.out)⟩
  case round =>
    obtain ⟨i, rfl, hil, hgg, hG, hB⟩ := hrel
    have hi0 : (0 : Int) ≤ (i : Int) := by omega
    have hwi : IntKind.i64.wrap ((i : Int) + 1) = (i : Int) + 1 := wrapNat (i + 1) (by omega)
    by_cases hlt : i < ids.length
    · have d1 : decide (i < ids.length) = true := decide_eq_true (by omega)
      have c1 : (i : Int) < (ids.length : Int) := by omega
      have d2 : decide (i < kinds.length) = true := decide_eq_true (by omega)
      have c2 : (i : Int) < (kinds.length : Int) := by omega
      have d3 : decide (i < 100) = true := decide_eq_true (by omega)
      have c3 : (i : Int) < 100 := by omega
      obtain ⟨b1, o1, rfl, hb1, hc1⟩ := slAt_at (HS1.out wr hB.out) (show i < ids.length by omega)
      obtain ⟨b2, o2, rfl, hb2, hc2⟩ := slAt_at (HS2.out wr hB.out) (show i < kinds.length by omega)
      have x0 := hc1 i (by omega) 0 _ rfl
      have x1 := hc1 i (by omega) 1 _ rfl
      have y0 := hc2 i (by omega) 0 _ rfl
      rw [Nat.add_zero] at x0 y0
      rw [Nat.mul_one] at y0
      obtain ⟨G, hok, hGA⟩ := hG.out
      have HOK := Lib.hid (hok.makeD ids[i]! kinds[i]!)
      have HMK : Hid (∀ W : World, W.heap = wr.heap → Calls Tryz.prog 19 #[.pointer (some ⟨gb, 0, none⟩), (.agg #[.int .i64 ids[i]!.t, .int .i64 ids[i]!.r]), .int .i64 kinds[i]!] W (Done gb mI mE (G.make ids[i]! kinds[i]!) (.int .i64 (G.makeWhy ids[i]! kinds[i]!)) W)) := Lib.hid fun W hW => make_g gb mI mE G ids[i]! kinds[i]! W (hGA.kept (by rw [hW]) (by rw [hW]) (by rw [hW])) hok
      have HK : Hid (∀ W, Turn (Maps2 mI mE) wr W → W.cell? ⟨b1, o1 + i * 2, none⟩ = some (.int .i64 ids[i]!.t) ∧ W.cell? ⟨b1, o1 + i * 2 + 1, none⟩ = some (.int .i64 ids[i]!.r) ∧ W.cell? ⟨b2, o2 + i, none⟩ = some (.int .i64 kinds[i]!)) := Lib.hid fun W hW => ⟨(hW.cell ⟨b1, _, none⟩ hb1).trans x0, (hW.cell ⟨b1, _, none⟩ hb1).trans x1, (hW.cell ⟨b2, _, none⟩ hb2).trans y0⟩
      clear hc1 hc2 hok hGA
      generalize ids[i]! = id at *
      generalize kinds[i]! = kd at *
      go_wp2_with fail
      go_region_held3 (fun W : World => W.cell? ⟨b1, o1 + i * 2, none⟩ = some (.int .i64 id.t) ∧ W.cell? ⟨b1, o1 + i * 2 + 1, none⟩ = some (.int .i64 id.r) ∧ W.cell? ⟨b2, o2 + i, none⟩ = some (.int .i64 kd)) (first | go_keep | exact HK.out _ HT5.out) (first
        | (go_at_call 19; refine (HMK.out wr.drew rfl).mono ?_; rintro e w5 ⟨rfl, hG5, hT5⟩; have HG5 := Lib.hid hG5; have HT5 := Lib.hid (Turn.trans (turn_drew _ wr) hT5); clear hG5 hT5))
      go_wp2
      go_roundg (ids.length - (i + 1))
      case measure => omega
      case rel => exact ⟨i + 1, by first | rfl | go_num, by omega, by omega, (show Aside _ from ⟨_, HOK.out, HG5.out⟩), (show Aside _ from hB.out.trans (own_below HT5.out HMM.out.1 HMM.out.2 hB.out.size))⟩
    · have d1 : decide (i < ids.length) = false := decide_eq_false (by omega)
      have c1 : ¬ (i : Int) < (ids.length : Int) := by omega
      have HGX := Lib.hid hG.out
      have HBX := Lib.hid hB.out
      obtain ⟨wo, hwo⟩ : ∃ wo, wo = wr := ⟨_, rfl⟩
      subst hwo
      clear hG hB hlt
      go_wp2
      go_loopg [10] es.length (fun gg s10 wr => ∃ j : Nat, s10 = .int .i64 j ∧ j ≤ es.length ∧ es.length - j ≤ gg ∧ Aside (∃ G : Gr, G.Ok ∧ GrAt wr gb mI mE G) ∧ Aside (Below w.heap.size w wr))
      case atStart => exact ⟨0, rfl, Nat.zero_le _, by omega, (show Aside _ from HGX.out), (show Aside _ from HBX.out)⟩
      case round =>
        obtain ⟨j, rfl, hjl, hgj, hG, hB⟩ := hrel
        have hj0 : (0 : Int) ≤ (j : Int) := by omega
        have hwj : IntKind.i64.wrap ((j : Int) + 1) = (j : Int) + 1 := wrapNat (j + 1) (by omega)
        by_cases hlj : j < es.length
        · have d1 : decide (j < es.length) = true := decide_eq_true (by omega)
          have c1 : (j : Int) < (es.length : Int) := by omega
          have d3 : decide (j < 100) = true := decide_eq_true (by omega)
          have c3 : (j : Int) < 100 := by omega
          obtain ⟨b1, o1, rfl, hb1, hc1⟩ := slAt_at (HS3.out wr hB.out) (show j < es.length by omega)
          have x0 := hc1 j (by omega) 0 _ rfl
          have x1 := hc1 j (by omega) 1 _ rfl
          have x2 := hc1 j (by omega) 2 _ rfl
          have x3 := hc1 j (by omega) 3 _ rfl
          have x4 := hc1 j (by omega) 4 _ rfl
          rw [Nat.add_zero] at x0
          obtain ⟨G, hok, hGA⟩ := hG.out
          have HOK := Lib.hid (hok.tieD es[j]!)
          have htie := tie_g gb mI mE G es[j]! wr hGA hok (by have := hok.few; omega) (HN.out _ (getElem!_mem (show j < es.length by omega)))
          clear hc1 hok hGA
          unfold Ent.v at htie
          generalize es[j]! = x at x0 x1 x2 x3 x4 HOK htie
          have HTI := Lib.hid htie
          clear htie
          go_wp2_with (go_at_call 20; refine HTI.out.mono ?_; rintro e w5 ⟨rfl, hG5, hT5⟩; have HG5 := Lib.hid hG5; have HT5 := Lib.hid hT5; clear hG5 hT5)
          go_roundg (es.length - (j + 1))
          case measure => omega
          case rel => exact ⟨j + 1, by first | rfl | go_num, by omega, by omega, (show Aside _ from ⟨_, HOK.out, HG5.out⟩), (show Aside _ from hB.out.trans (own_below HT5.out HMM.out.1 HMM.out.2 hB.out.size))⟩
        · have d1 : decide (j < es.length) = false := decide_eq_false (by omega)
          have c1 : ¬ (j : Int) < (es.length : Int) := by omega
          obtain ⟨G, hok, hGA⟩ := hG.out
          have HGA := Lib.hid (hGA.reads hok (by have := hok.few; omega))
          have HOK := Lib.hid hok
          have HBW := Lib.hid hB.out
          have HBr0 : Hid (Below wr.heap.size wr wr) := Lib.hid (Below.refl _ _)
          have HFF : Hid ((faults G.n G.e).length ≤ 7 ∧ ∀ z ∈ faults G.n G.e, 5 ≤ z) := Lib.hid ⟨faults_few _ _, faults_high hok⟩
          have HNM : Hid (∀ x ∈ G.e, x.name.size ≤ maxLen) := Lib.hid fun x hx => name_small10 (hok.names x hx)
          clear hG hB hlj hok hGA
          go_wp2_with fail
          refine (HGA.out.inodes _ (by first | exact HBr0.out | exact HBr0.out.alloc HBr0.out.size _ | exact (HBr0.out.alloc HBr0.out.size _).alloc (le_al HBr0.out.size) _ | exact ((HBr0.out.alloc HBr0.out.size _).alloc (le_al HBr0.out.size) _).alloc (le_al (le_al HBr0.out.size)) _ | exact HBr0.out.drew | exact (HBr0.out.alloc HBr0.out.size _).drew | exact ((HBr0.out.alloc HBr0.out.size _).alloc (le_al HBr0.out.size) _).drew)).mono ?_
          rintro e r1 ⟨ia, ic, rfl, hs1, hbr1⟩
          obtain ⟨hcr1, hfr1⟩ := bcell hbr1
          have hsr1 := hbr1.size
          try simp only [size_drew] at hsr1
          try simp only [World.size_alloc] at hsr1
          try simp only [size_setCell'] at hsr1
          try have ler1_0 : wr.heap.size ≤ r1.heap.size := (by omega)
          try have ltr1_0 : wr.heap.size < r1.heap.size := (by omega)
          have HBr1 : Hid (Below wr.heap.size wr r1) := Lib.hid (Below.trans (by first | exact HBr0.out | exact HBr0.out.alloc HBr0.out.size _ | exact (HBr0.out.alloc HBr0.out.size _).alloc (le_al HBr0.out.size) _ | exact ((HBr0.out.alloc HBr0.out.size _).alloc (le_al HBr0.out.size) _).alloc (le_al (le_al HBr0.out.size)) _ | exact HBr0.out.drew | exact (HBr0.out.alloc HBr0.out.size _).drew | exact ((HBr0.out.alloc HBr0.out.size _).alloc (le_al HBr0.out.size) _).drew) (hbr1.mono (by (try simp only [size_drew]); (try simp only [World.size_alloc]); (try simp only [size_setCell']); omega)))
          have HNr1 := Lib.hid hbr1
          clear hbr1 hsr1
          have HI1 := Lib.hid hs1
          clear hs1
          go_wp2_with fail
          refine (HGA.out.entries _ (by first | exact HBr1.out | exact HBr1.out.alloc HBr1.out.size _ | exact (HBr1.out.alloc HBr1.out.size _).alloc (le_al HBr1.out.size) _ | exact ((HBr1.out.alloc HBr1.out.size _).alloc (le_al HBr1.out.size) _).alloc (le_al (le_al HBr1.out.size)) _ | exact HBr1.out.drew | exact (HBr1.out.alloc HBr1.out.size _).drew | exact ((HBr1.out.alloc HBr1.out.size _).alloc (le_al HBr1.out.size) _).drew | exact HBr0.out | exact HBr0.out.alloc HBr0.out.size _ | exact (HBr0.out.alloc HBr0.out.size _).alloc (le_al HBr0.out.size) _ | exact ((HBr0.out.alloc HBr0.out.size _).alloc (le_al HBr0.out.size) _).alloc (le_al (le_al HBr0.out.size)) _ | exact HBr0.out.drew | exact (HBr0.out.alloc HBr0.out.size _).drew | exact ((HBr0.out.alloc HBr0.out.size _).alloc (le_al HBr0.out.size) _).drew)).mono ?_
          rintro e r2 ⟨ea, ec, rfl, hs2, hbr2⟩
          obtain ⟨hcr2, hfr2⟩ := bcell hbr2
          have hsr2 := hbr2.size
          try simp only [size_drew] at hsr2
          try simp only [World.size_alloc] at hsr2
          try simp only [size_setCell'] at hsr2
          try have ler2_0 : wr.heap.size ≤ r2.heap.size := (by omega)
          try have ltr2_0 : wr.heap.size < r2.heap.size := (by omega)
          try have ler2_1 : r1.heap.size ≤ r2.heap.size := (by omega)
          try have ltr2_1 : r1.heap.size < r2.heap.size := (by omega)
          have HBr2 : Hid (Below wr.heap.size wr r2) := Lib.hid (Below.trans (by first | exact HBr1.out | exact HBr1.out.alloc HBr1.out.size _ | exact (HBr1.out.alloc HBr1.out.size _).alloc (le_al HBr1.out.size) _ | exact ((HBr1.out.alloc HBr1.out.size _).alloc (le_al HBr1.out.size) _).alloc (le_al (le_al HBr1.out.size)) _ | exact HBr1.out.drew | exact (HBr1.out.alloc HBr1.out.size _).drew | exact ((HBr1.out.alloc HBr1.out.size _).alloc (le_al HBr1.out.size) _).drew | exact HBr0.out | exact HBr0.out.alloc HBr0.out.size _ | exact (HBr0.out.alloc HBr0.out.size _).alloc (le_al HBr0.out.size) _ | exact ((HBr0.out.alloc HBr0.out.size _).alloc (le_al HBr0.out.size) _).alloc (le_al (le_al HBr0.out.size)) _ | exact HBr0.out.drew | exact (HBr0.out.alloc HBr0.out.size _).drew | exact ((HBr0.out.alloc HBr0.out.size _).alloc (le_al HBr0.out.size) _).drew) (hbr2.mono (by (try simp only [size_drew]); (try simp only [World.size_alloc]); (try simp only [size_setCell']); omega)))
          have HNr2 := Lib.hid hbr2
          clear hbr2 hsr2
          have HCK := Lib.hid (check_any _ _ G.n G.e r2 (HI1.out.below HNr2.out) hs2 (by have := HOK.out.len; omega) (by have := HOK.out.few; omega) HNM.out)
          clear hs2
          go_wp2_with fail
          refine (HCK.out).mono ?_
          rintro e r3 ⟨cv, rfl, hrow, hbr3⟩
          obtain ⟨hcr3, hfr3⟩ := bcell hbr3
          have hsr3 := hbr3.size
          try simp only [size_drew] at hsr3
          try simp only [World.size_alloc] at hsr3
          try simp only [size_setCell'] at hsr3
          try have ler3_0 : wr.heap.size ≤ r3.heap.size := (by omega)
          try have ltr3_0 : wr.heap.size < r3.heap.size := (by omega)
          try have ler3_1 : r1.heap.size ≤ r3.heap.size := (by omega)
          try have ltr3_1 : r1.heap.size < r3.heap.size := (by omega)
          try have ler3_2 : r2.heap.size ≤ r3.heap.size := (by omega)
          try have ltr3_2 : r2.heap.size < r3.heap.size := (by omega)
          have HBr3 : Hid (Below wr.heap.size wr r3) := Lib.hid (Below.trans (by first | exact HBr2.out | exact HBr2.out.alloc HBr2.out.size _ | exact (HBr2.out.alloc HBr2.out.size _).alloc (le_al HBr2.out.size) _ | exact ((HBr2.out.alloc HBr2.out.size _).alloc (le_al HBr2.out.size) _).alloc (le_al (le_al HBr2.out.size)) _ | exact HBr2.out.drew | exact (HBr2.out.alloc HBr2.out.size _).drew | exact ((HBr2.out.alloc HBr2.out.size _).alloc (le_al HBr2.out.size) _).drew | exact HBr1.out | exact HBr1.out.alloc HBr1.out.size _ | exact (HBr1.out.alloc HBr1.out.size _).alloc (le_al HBr1.out.size) _ | exact ((HBr1.out.alloc HBr1.out.size _).alloc (le_al HBr1.out.size) _).alloc (le_al (le_al HBr1.out.size)) _ | exact HBr1.out.drew | exact (HBr1.out.alloc HBr1.out.size _).drew | exact ((HBr1.out.alloc HBr1.out.size _).alloc (le_al HBr1.out.size) _).drew | exact HBr0.out | exact HBr0.out.alloc HBr0.out.size _ | exact (HBr0.out.alloc HBr0.out.size _).alloc (le_al HBr0.out.size) _ | exact ((HBr0.out.alloc HBr0.out.size _).alloc (le_al HBr0.out.size) _).alloc (le_al (le_al HBr0.out.size)) _ | exact HBr0.out.drew | exact (HBr0.out.alloc HBr0.out.size _).drew | exact ((HBr0.out.alloc HBr0.out.size _).alloc (le_al HBr0.out.size) _).drew) (hbr3.mono (by (try simp only [size_drew]); (try simp only [World.size_alloc]); (try simp only [size_setCell']); omega)))
          have HNr3 := Lib.hid hbr3
          clear hbr3 hsr3
          rw [← i64_map] at hrow
          have hsl : SlAt r3 1 I64.cells cv (faults G.n G.e) := SlAt.of_row (fun _ => rfl) hrow
          have HFL := Lib.hid hsl
          obtain ⟨fa, fc, rfl⟩ := hsl.len
          clear hrow hsl
          generalize faults G.n G.e = F at *
          obtain ⟨wo2, hwo2⟩ : ∃ wo2, wo2 = wr := ⟨_, rfl⟩
          subst hwo2
          go_wp2
          go_loopg [12] F.length (fun gg s12 wr => ∃ k : Nat, s12 = .int .i64 k ∧ k ≤ F.length ∧ F.length - k ≤ gg ∧ Aside (Below r3.heap.size r3 wr))
          case atStart => exact ⟨0, rfl, Nat.zero_le _, by omega, (show Aside _ from Below.refl _ _)⟩
          case round =>
            obtain ⟨k, rfl, hkl, hgk, hB⟩ := hrel
            have hk0 : (0 : Int) ≤ (k : Int) := by omega
            have hwk : IntKind.i64.wrap ((k : Int) + 1) = (k : Int) + 1 := wrapNat (k + 1) (by have := HFF.out.1; omega)
            by_cases hlk : k < F.length
            · have c1 : (k : Int) < (F.length : Int) := by omega
              obtain ⟨fb, fo, rfl, _, hfc⟩ := slAt_at (HFL.out.below hB.out) hlk
              have x0 := hfc k hlk 0 _ rfl
              rw [Nat.add_zero, Nat.mul_one] at x0
              have h5 : decide (F[k]! < 5) = false := by rw [decide_eq_false_iff_not]; have := HFF.out.2 _ (getElem!_mem hlk); omega
              clear hfc
              generalize F[k]! = z at *
              go_wp2
              go_roundg (F.length - (k + 1))
              case measure => omega
              case rel => exact ⟨k + 1, by first | rfl | go_num, by omega, by omega, (show Aside _ from hB.out)⟩
            · have c1 : ¬ (k : Int) < (F.length : Int) := by omega
              clear hlk
              go_wp2
              go_ret
              exact ⟨rfl, HBW.out.trans ((HBr3.out.trans (hB.out.mono HBr3.out.size)).mono HBW.out.size)⟩

set_option maxRecDepth 100000 in
set_option maxHeartbeats 8000000 in
theorem graph_ids_top (v1 : Value) (ids : List St) (v2 : Value) (kinds : List Int) (v3 : Value) (es : List Ent) (w : World) (hs1 : SlAt w 2 St.cells v1 ids) (_hn1 : ∀ z ∈ ids, True) (hs2 : SlAt w 1 I64.cells v2 kinds) (_hn2 : ∀ z ∈ kinds, True) (hs3 : SlAt w 5 Ent.cells v3 es) (hn3 : ∀ z ∈ es, z.name.size ≤ maxLen) (hA : ids.length ≤ kinds.length) (hA2 : ids.length ≤ 100) (hB : 100 < es.length) :
    Calls Tryz.prog 3 #[v1, v2, v3] w fun y w' => y = .returned (.bool true) ∧ Below w.heap.size w w' := by
  have HS1 : Hid (∀ W, Below w.heap.size w W → SlAt W 2 St.cells v1 ids) := Lib.hid fun W hW => hs1.below hW
  have HS2 : Hid (∀ W, Below w.heap.size w W → SlAt W 1 I64.cells v2 kinds) := Lib.hid fun W hW => hs2.below hW
  have HS3 : Hid (∀ W, Below w.heap.size w W → SlAt W 5 Ent.cells v3 es) := Lib.hid fun W hW => hs3.below hW
  have HN := Lib.hid hn3
  have HB0 : Hid (Below w.heap.size w w) := Lib.hid (Below.refl _ _)
  obtain ⟨a1, c1_, rfl⟩ := hs1.len
  obtain ⟨a2, c2_, rfl⟩ := hs2.len
  obtain ⟨a3, c3_, rfl⟩ := hs3.len
  clear hs1 hs2 hs3 hn3 _hn1 _hn2
  go_enter Tryz.func3, Tryz.ntmps3
  go_wp2_with fail
  refine (shown_any _).mono ?_
  rintro e w1 ⟨rfl, hb1⟩
  obtain ⟨hc1, hf1⟩ := bcell hb1
  have hs1 := hb1.size
  try simp only [size_drew] at hs1
  try simp only [World.size_alloc] at hs1
  try simp only [size_setCell'] at hs1
  try have le1_0 : w.heap.size ≤ w1.heap.size := (by omega)
  try have lt1_0 : w.heap.size < w1.heap.size := (by omega)
  have HB1 : Hid (Below w.heap.size w w1) := Lib.hid (Below.trans (by first | exact HB0.out | exact HB0.out.alloc HB0.out.size _ | exact (HB0.out.alloc HB0.out.size _).alloc (le_al HB0.out.size) _ | exact ((HB0.out.alloc HB0.out.size _).alloc (le_al HB0.out.size) _).alloc (le_al (le_al HB0.out.size)) _ | exact HB0.out.drew | exact (HB0.out.alloc HB0.out.size _).drew | exact ((HB0.out.alloc HB0.out.size _).alloc (le_al HB0.out.size) _).drew) (hb1.mono (by (try simp only [size_drew]); (try simp only [World.size_alloc]); (try simp only [size_setCell']); omega)))
  have HN1 := Lib.hid hb1
  clear hb1 hs1
  go_wp2_with fail
  refine (new_g _).mono ?_
  rintro e w2 ⟨v2', rfl, ⟨gb, mI, mE, rfl, hG2, q1, q2, q3⟩, hb2⟩
  obtain ⟨hc2, hf2⟩ := bcell hb2
  have hs2 := hb2.size
  try simp only [size_drew] at hs2
  try simp only [World.size_alloc] at hs2
  try simp only [size_setCell'] at hs2
  try have le2_0 : w.heap.size ≤ w2.heap.size := (by omega)
  try have lt2_0 : w.heap.size < w2.heap.size := (by omega)
  try have le2_1 : w1.heap.size ≤ w2.heap.size := (by omega)
  try have lt2_1 : w1.heap.size < w2.heap.size := (by omega)
  have HB2 : Hid (Below w.heap.size w w2) := Lib.hid (Below.trans (by first | exact HB1.out | exact HB1.out.alloc HB1.out.size _ | exact (HB1.out.alloc HB1.out.size _).alloc (le_al HB1.out.size) _ | exact ((HB1.out.alloc HB1.out.size _).alloc (le_al HB1.out.size) _).alloc (le_al (le_al HB1.out.size)) _ | exact HB1.out.drew | exact (HB1.out.alloc HB1.out.size _).drew | exact ((HB1.out.alloc HB1.out.size _).alloc (le_al HB1.out.size) _).drew | exact HB0.out | exact HB0.out.alloc HB0.out.size _ | exact (HB0.out.alloc HB0.out.size _).alloc (le_al HB0.out.size) _ | exact ((HB0.out.alloc HB0.out.size _).alloc (le_al HB0.out.size) _).alloc (le_al (le_al HB0.out.size)) _ | exact HB0.out.drew | exact (HB0.out.alloc HB0.out.size _).drew | exact ((HB0.out.alloc HB0.out.size _).alloc (le_al HB0.out.size) _).drew) (hb2.mono (by (try simp only [size_drew]); (try simp only [World.size_alloc]); (try simp only [size_setCell']); omega)))
  have HN2 := Lib.hid hb2
  clear hb2 hs2
  have HG2 := Lib.hid hG2
  have HMM : Hid (w.heap.size ≤ mI ∧ w.heap.size ≤ mE) := Lib.hid ⟨Nat.le_trans HB1.out.size q2, Nat.le_trans HB1.out.size q3⟩
  clear hG2 q1 q2 q3
  go_wp2
  go_loopg [9] ids.length (fun gg s9 wr => ∃ i : Nat, s9 = .int .i64 i ∧ i ≤ ids.length ∧ ids.length - i ≤ gg ∧ Aside (∃ G : Gr, G.Ok ∧ GrAt wr gb mI mE G) ∧ Aside (Below w.heap.size w wr))
  case atStart => exact ⟨0, rfl, Nat.zero_le _, by omega, (show Aside _ from ⟨Gr.new, Gr.Ok.new, HG2.out⟩), (show Aside _ from HB2.out)⟩
  case round =>
    obtain ⟨i, rfl, hil, hgg, hG, hB⟩ := hrel
    have hi0 : (0 : Int) ≤ (i : Int) := by omega
    have hwi : IntKind.i64.wrap ((i : Int) + 1) = (i : Int) + 1 := wrapNat (i + 1) (by omega)
    by_cases hlt : i < ids.length
    · have d1 : decide (i < ids.length) = true := decide_eq_true (by omega)
      have c1 : (i : Int) < (ids.length : Int) := by omega
      have d2 : decide (i < kinds.length) = true := decide_eq_true (by omega)
      have c2 : (i : Int) < (kinds.length : Int) := by omega
      have d3 : decide (i < 100) = true := decide_eq_true (by omega)
      have c3 : (i : Int) < 100 := by omega
      obtain ⟨b1, o1, rfl, hb1, hc1⟩ := slAt_at (HS1.out wr hB.out) (show i < ids.length by omega)
      obtain ⟨b2, o2, rfl, hb2, hc2⟩ := slAt_at (HS2.out wr hB.out) (show i < kinds.length by omega)
      have x0 := hc1 i (by omega) 0 _ rfl
      have x1 := hc1 i (by omega) 1 _ rfl
      have y0 := hc2 i (by omega) 0 _ rfl
      rw [Nat.add_zero] at x0 y0
      rw [Nat.mul_one] at y0
      obtain ⟨G, hok, hGA⟩ := hG.out
      have HOK := Lib.hid (hok.makeD ids[i]! kinds[i]!)
      have HMK : Hid (∀ W : World, W.heap = wr.heap → Calls Tryz.prog 19 #[.pointer (some ⟨gb, 0, none⟩), (.agg #[.int .i64 ids[i]!.t, .int .i64 ids[i]!.r]), .int .i64 kinds[i]!] W (Done gb mI mE (G.make ids[i]! kinds[i]!) (.int .i64 (G.makeWhy ids[i]! kinds[i]!)) W)) := Lib.hid fun W hW => make_g gb mI mE G ids[i]! kinds[i]! W (hGA.kept (by rw [hW]) (by rw [hW]) (by rw [hW])) hok
      have HK : Hid (∀ W, Turn (Maps2 mI mE) wr W → W.cell? ⟨b1, o1 + i * 2, none⟩ = some (.int .i64 ids[i]!.t) ∧ W.cell? ⟨b1, o1 + i * 2 + 1, none⟩ = some (.int .i64 ids[i]!.r) ∧ W.cell? ⟨b2, o2 + i, none⟩ = some (.int .i64 kinds[i]!)) := Lib.hid fun W hW => ⟨(hW.cell ⟨b1, _, none⟩ hb1).trans x0, (hW.cell ⟨b1, _, none⟩ hb1).trans x1, (hW.cell ⟨b2, _, none⟩ hb2).trans y0⟩
      clear hc1 hc2 hok hGA
      generalize ids[i]! = id at *
      generalize kinds[i]! = kd at *
      go_wp2_with fail
      go_region_held3 (fun W : World => W.cell? ⟨b1, o1 + i * 2, none⟩ = some (.int .i64 id.t) ∧ W.cell? ⟨b1, o1 + i * 2 + 1, none⟩ = some (.int .i64 id.r) ∧ W.cell? ⟨b2, o2 + i, none⟩ = some (.int .i64 kd)) (first | go_keep | exact HK.out _ HT5.out) (first
        | (go_at_call 19; refine (HMK.out wr.drew rfl).mono ?_; rintro e w5 ⟨rfl, hG5, hT5⟩; have HG5 := Lib.hid hG5; have HT5 := Lib.hid (Turn.trans (turn_drew _ wr) hT5); clear hG5 hT5))
      go_wp2
      go_roundg (ids.length - (i + 1))
      case measure => omega
      case rel => exact ⟨i + 1, by first | rfl | go_num, by omega, by omega, (show Aside _ from ⟨_, HOK.out, HG5.out⟩), (show Aside _ from hB.out.trans (own_below HT5.out HMM.out.1 HMM.out.2 hB.out.size))⟩
    · have d1 : decide (i < ids.length) = false := decide_eq_false (by omega)
      have c1 : ¬ (i : Int) < (ids.length : Int) := by omega
      have HGX := Lib.hid hG.out
      have HBX := Lib.hid hB.out
      obtain ⟨wo, hwo⟩ : ∃ wo, wo = wr := ⟨_, rfl⟩
      subst hwo
      clear hG hB hlt
      go_wp2
      go_loopg [10] 100 (fun gg s10 wr => ∃ j : Nat, s10 = .int .i64 j ∧ j ≤ 100 ∧ 100 - j ≤ gg ∧ Aside (∃ G : Gr, G.Ok ∧ GrAt wr gb mI mE G) ∧ Aside (Below w.heap.size w wr))
      case atStart => exact ⟨0, rfl, Nat.zero_le _, by omega, (show Aside _ from HGX.out), (show Aside _ from HBX.out)⟩
      case round =>
        obtain ⟨j, rfl, hjl, hgj, hG, hB⟩ := hrel
        have hj0 : (0 : Int) ≤ (j : Int) := by omega
        have hwj : IntKind.i64.wrap ((j : Int) + 1) = (j : Int) + 1 := wrapNat (j + 1) (by omega)
        by_cases hlj : j < 100
        · have d1 : decide (j < es.length) = true := decide_eq_true (by omega)
          have c1 : (j : Int) < (es.length : Int) := by omega
          have d3 : decide (j < 100) = true := decide_eq_true (by omega)
          have c3 : (j : Int) < 100 := by omega
          obtain ⟨b1, o1, rfl, hb1, hc1⟩ := slAt_at (HS3.out wr hB.out) (show j < es.length by omega)
          have x0 := hc1 j (by omega) 0 _ rfl
          have x1 := hc1 j (by omega) 1 _ rfl
          have x2 := hc1 j (by omega) 2 _ rfl
          have x3 := hc1 j (by omega) 3 _ rfl
          have x4 := hc1 j (by omega) 4 _ rfl
          rw [Nat.add_zero] at x0
          obtain ⟨G, hok, hGA⟩ := hG.out
          have HOK := Lib.hid (hok.tieD es[j]!)
          have htie := tie_g gb mI mE G es[j]! wr hGA hok (by have := hok.few; omega) (HN.out _ (getElem!_mem (show j < es.length by omega)))
          clear hc1 hok hGA
          unfold Ent.v at htie
          generalize es[j]! = x at x0 x1 x2 x3 x4 HOK htie
          have HTI := Lib.hid htie
          clear htie
          go_wp2_with (go_at_call 20; refine HTI.out.mono ?_; rintro e w5 ⟨rfl, hG5, hT5⟩; have HG5 := Lib.hid hG5; have HT5 := Lib.hid hT5; clear hG5 hT5)
          go_roundg (100 - (j + 1))
          case measure => omega
          case rel => exact ⟨j + 1, by first | rfl | go_num, by omega, by omega, (show Aside _ from ⟨_, HOK.out, HG5.out⟩), (show Aside _ from hB.out.trans (own_below HT5.out HMM.out.1 HMM.out.2 hB.out.size))⟩
        · have d1 : decide (j < es.length) = true := decide_eq_true (by omega)
          have c1 : (j : Int) < (es.length : Int) := by omega
          have d3 : decide (j < 100) = false := decide_eq_false (by omega)
          have c3 : ¬ (j : Int) < 100 := by omega
          obtain ⟨G, hok, hGA⟩ := hG.out
          have HGA := Lib.hid (hGA.reads hok (by have := hok.few; omega))
          have HOK := Lib.hid hok
          have HBW := Lib.hid hB.out
          have HBr0 : Hid (Below wr.heap.size wr wr) := Lib.hid (Below.refl _ _)
          have HFF : Hid ((faults G.n G.e).length ≤ 7 ∧ ∀ z ∈ faults G.n G.e, 5 ≤ z) := Lib.hid ⟨faults_few _ _, faults_high hok⟩
          have HNM : Hid (∀ x ∈ G.e, x.name.size ≤ maxLen) := Lib.hid fun x hx => name_small10 (hok.names x hx)
          clear hG hB hlj hok hGA
          go_wp2_with fail
          refine (HGA.out.inodes _ (by first | exact HBr0.out | exact HBr0.out.alloc HBr0.out.size _ | exact (HBr0.out.alloc HBr0.out.size _).alloc (le_al HBr0.out.size) _ | exact ((HBr0.out.alloc HBr0.out.size _).alloc (le_al HBr0.out.size) _).alloc (le_al (le_al HBr0.out.size)) _ | exact HBr0.out.drew | exact (HBr0.out.alloc HBr0.out.size _).drew | exact ((HBr0.out.alloc HBr0.out.size _).alloc (le_al HBr0.out.size) _).drew)).mono ?_
          rintro e r1 ⟨ia, ic, rfl, hs1, hbr1⟩
          obtain ⟨hcr1, hfr1⟩ := bcell hbr1
          have hsr1 := hbr1.size
          try simp only [size_drew] at hsr1
          try simp only [World.size_alloc] at hsr1
          try simp only [size_setCell'] at hsr1
          try have ler1_0 : wr.heap.size ≤ r1.heap.size := (by omega)
          try have ltr1_0 : wr.heap.size < r1.heap.size := (by omega)
          have HBr1 : Hid (Below wr.heap.size wr r1) := Lib.hid (Below.trans (by first | exact HBr0.out | exact HBr0.out.alloc HBr0.out.size _ | exact (HBr0.out.alloc HBr0.out.size _).alloc (le_al HBr0.out.size) _ | exact ((HBr0.out.alloc HBr0.out.size _).alloc (le_al HBr0.out.size) _).alloc (le_al (le_al HBr0.out.size)) _ | exact HBr0.out.drew | exact (HBr0.out.alloc HBr0.out.size _).drew | exact ((HBr0.out.alloc HBr0.out.size _).alloc (le_al HBr0.out.size) _).drew) (hbr1.mono (by (try simp only [size_drew]); (try simp only [World.size_alloc]); (try simp only [size_setCell']); omega)))
          have HNr1 := Lib.hid hbr1
          clear hbr1 hsr1
          have HI1 := Lib.hid hs1
          clear hs1
          go_wp2_with fail
          refine (HGA.out.entries _ (by first | exact HBr1.out | exact HBr1.out.alloc HBr1.out.size _ | exact (HBr1.out.alloc HBr1.out.size _).alloc (le_al HBr1.out.size) _ | exact ((HBr1.out.alloc HBr1.out.size _).alloc (le_al HBr1.out.size) _).alloc (le_al (le_al HBr1.out.size)) _ | exact HBr1.out.drew | exact (HBr1.out.alloc HBr1.out.size _).drew | exact ((HBr1.out.alloc HBr1.out.size _).alloc (le_al HBr1.out.size) _).drew | exact HBr0.out | exact HBr0.out.alloc HBr0.out.size _ | exact (HBr0.out.alloc HBr0.out.size _).alloc (le_al HBr0.out.size) _ | exact ((HBr0.out.alloc HBr0.out.size _).alloc (le_al HBr0.out.size) _).alloc (le_al (le_al HBr0.out.size)) _ | exact HBr0.out.drew | exact (HBr0.out.alloc HBr0.out.size _).drew | exact ((HBr0.out.alloc HBr0.out.size _).alloc (le_al HBr0.out.size) _).drew)).mono ?_
          rintro e r2 ⟨ea, ec, rfl, hs2, hbr2⟩
          obtain ⟨hcr2, hfr2⟩ := bcell hbr2
          have hsr2 := hbr2.size
          try simp only [size_drew] at hsr2
          try simp only [World.size_alloc] at hsr2
          try simp only [size_setCell'] at hsr2
          try have ler2_0 : wr.heap.size ≤ r2.heap.size := (by omega)
          try have ltr2_0 : wr.heap.size < r2.heap.size := (by omega)
          try have ler2_1 : r1.heap.size ≤ r2.heap.size := (by omega)
          try have ltr2_1 : r1.heap.size < r2.heap.size := (by omega)
          have HBr2 : Hid (Below wr.heap.size wr r2) := Lib.hid (Below.trans (by first | exact HBr1.out | exact HBr1.out.alloc HBr1.out.size _ | exact (HBr1.out.alloc HBr1.out.size _).alloc (le_al HBr1.out.size) _ | exact ((HBr1.out.alloc HBr1.out.size _).alloc (le_al HBr1.out.size) _).alloc (le_al (le_al HBr1.out.size)) _ | exact HBr1.out.drew | exact (HBr1.out.alloc HBr1.out.size _).drew | exact ((HBr1.out.alloc HBr1.out.size _).alloc (le_al HBr1.out.size) _).drew | exact HBr0.out | exact HBr0.out.alloc HBr0.out.size _ | exact (HBr0.out.alloc HBr0.out.size _).alloc (le_al HBr0.out.size) _ | exact ((HBr0.out.alloc HBr0.out.size _).alloc (le_al HBr0.out.size) _).alloc (le_al (le_al HBr0.out.size)) _ | exact HBr0.out.drew | exact (HBr0.out.alloc HBr0.out.size _).drew | exact ((HBr0.out.alloc HBr0.out.size _).alloc (le_al HBr0.out.size) _).drew) (hbr2.mono (by (try simp only [size_drew]); (try simp only [World.size_alloc]); (try simp only [size_setCell']); omega)))
          have HNr2 := Lib.hid hbr2
          clear hbr2 hsr2
          have HCK := Lib.hid (check_any _ _ G.n G.e r2 (HI1.out.below HNr2.out) hs2 (by have := HOK.out.len; omega) (by have := HOK.out.few; omega) HNM.out)
          clear hs2
          go_wp2_with fail
          refine (HCK.out).mono ?_
          rintro e r3 ⟨cv, rfl, hrow, hbr3⟩
          obtain ⟨hcr3, hfr3⟩ := bcell hbr3
          have hsr3 := hbr3.size
          try simp only [size_drew] at hsr3
          try simp only [World.size_alloc] at hsr3
          try simp only [size_setCell'] at hsr3
          try have ler3_0 : wr.heap.size ≤ r3.heap.size := (by omega)
          try have ltr3_0 : wr.heap.size < r3.heap.size := (by omega)
          try have ler3_1 : r1.heap.size ≤ r3.heap.size := (by omega)
          try have ltr3_1 : r1.heap.size < r3.heap.size := (by omega)
          try have ler3_2 : r2.heap.size ≤ r3.heap.size := (by omega)
          try have ltr3_2 : r2.heap.size < r3.heap.size := (by omega)
          have HBr3 : Hid (Below wr.heap.size wr r3) := Lib.hid (Below.trans (by first | exact HBr2.out | exact HBr2.out.alloc HBr2.out.size _ | exact (HBr2.out.alloc HBr2.out.size _).alloc (le_al HBr2.out.size) _ | exact ((HBr2.out.alloc HBr2.out.size _).alloc (le_al HBr2.out.size) _).alloc (le_al (le_al HBr2.out.size)) _ | exact HBr2.out.drew | exact (HBr2.out.alloc HBr2.out.size _).drew | exact ((HBr2.out.alloc HBr2.out.size _).alloc (le_al HBr2.out.size) _).drew | exact HBr1.out | exact HBr1.out.alloc HBr1.out.size _ | exact (HBr1.out.alloc HBr1.out.size _).alloc (le_al HBr1.out.size) _ | exact ((HBr1.out.alloc HBr1.out.size _).alloc (le_al HBr1.out.size) _).alloc (le_al (le_al HBr1.out.size)) _ | exact HBr1.out.drew | exact (HBr1.out.alloc HBr1.out.size _).drew | exact ((HBr1.out.alloc HBr1.out.size _).alloc (le_al HBr1.out.size) _).drew | exact HBr0.out | exact HBr0.out.alloc HBr0.out.size _ | exact (HBr0.out.alloc HBr0.out.size _).alloc (le_al HBr0.out.size) _ | exact ((HBr0.out.alloc HBr0.out.size _).alloc (le_al HBr0.out.size) _).alloc (le_al (le_al HBr0.out.size)) _ | exact HBr0.out.drew | exact (HBr0.out.alloc HBr0.out.size _).drew | exact ((HBr0.out.alloc HBr0.out.size _).alloc (le_al HBr0.out.size) _).drew) (hbr3.mono (by (try simp only [size_drew]); (try simp only [World.size_alloc]); (try simp only [size_setCell']); omega)))
          have HNr3 := Lib.hid hbr3
          clear hbr3 hsr3
          rw [← i64_map] at hrow
          have hsl : SlAt r3 1 I64.cells cv (faults G.n G.e) := SlAt.of_row (fun _ => rfl) hrow
          have HFL := Lib.hid hsl
          obtain ⟨fa, fc, rfl⟩ := hsl.len
          clear hrow hsl
          generalize faults G.n G.e = F at *
          obtain ⟨wo2, hwo2⟩ : ∃ wo2, wo2 = wr := ⟨_, rfl⟩
          subst hwo2
          go_wp2
          go_loopg [12] F.length (fun gg s12 wr => ∃ k : Nat, s12 = .int .i64 k ∧ k ≤ F.length ∧ F.length - k ≤ gg ∧ Aside (Below r3.heap.size r3 wr))
          case atStart => exact ⟨0, rfl, Nat.zero_le _, by omega, (show Aside _ from Below.refl _ _)⟩
          case round =>
            obtain ⟨k, rfl, hkl, hgk, hB⟩ := hrel
            have hk0 : (0 : Int) ≤ (k : Int) := by omega
            have hwk : IntKind.i64.wrap ((k : Int) + 1) = (k : Int) + 1 := wrapNat (k + 1) (by have := HFF.out.1; omega)
            by_cases hlk : k < F.length
            · have c1 : (k : Int) < (F.length : Int) := by omega
              obtain ⟨fb, fo, rfl, _, hfc⟩ := slAt_at (HFL.out.below hB.out) hlk
              have x0 := hfc k hlk 0 _ rfl
              rw [Nat.add_zero, Nat.mul_one] at x0
              have h5 : decide (F[k]! < 5) = false := by rw [decide_eq_false_iff_not]; have := HFF.out.2 _ (getElem!_mem hlk); omega
              clear hfc
              generalize F[k]! = z at *
              go_wp2
              go_roundg (F.length - (k + 1))
              case measure => omega
              case rel => exact ⟨k + 1, by first | rfl | go_num, by omega, by omega, (show Aside _ from hB.out)⟩
            · have c1 : ¬ (k : Int) < (F.length : Int) := by omega
              clear hlk
              go_wp2
              go_ret
              exact ⟨rfl, HBW.out.trans ((HBr3.out.trans (hB.out.mono HBr3.out.size)).mono HBW.out.size)⟩

set_option maxRecDepth 100000 in
set_option maxHeartbeats 8000000 in
theorem graph_kinds_es (v1 : Value) (ids : List St) (v2 : Value) (kinds : List Int) (v3 : Value) (es : List Ent) (w : World) (hs1 : SlAt w 2 St.cells v1 ids) (_hn1 : ∀ z ∈ ids, True) (hs2 : SlAt w 1 I64.cells v2 kinds) (_hn2 : ∀ z ∈ kinds, True) (hs3 : SlAt w 5 Ent.cells v3 es) (hn3 : ∀ z ∈ es, z.name.size ≤ maxLen) (hA : kinds.length < ids.length) (hA2 : kinds.length ≤ 100) (hB : es.length ≤ 100) :
    Calls Tryz.prog 3 #[v1, v2, v3] w fun y w' => y = .returned (.bool true) ∧ Below w.heap.size w w' := by
  have HS1 : Hid (∀ W, Below w.heap.size w W → SlAt W 2 St.cells v1 ids) := Lib.hid fun W hW => hs1.below hW
  have HS2 : Hid (∀ W, Below w.heap.size w W → SlAt W 1 I64.cells v2 kinds) := Lib.hid fun W hW => hs2.below hW
  have HS3 : Hid (∀ W, Below w.heap.size w W → SlAt W 5 Ent.cells v3 es) := Lib.hid fun W hW => hs3.below hW
  have HN := Lib.hid hn3
  have HB0 : Hid (Below w.heap.size w w) := Lib.hid (Below.refl _ _)
  obtain ⟨a1, c1_, rfl⟩ := hs1.len
  obtain ⟨a2, c2_, rfl⟩ := hs2.len
  obtain ⟨a3, c3_, rfl⟩ := hs3.len
  clear hs1 hs2 hs3 hn3 _hn1 _hn2
  go_enter Tryz.func3, Tryz.ntmps3
  go_wp2_with fail
  refine (shown_any _).mono ?_
  rintro e w1 ⟨rfl, hb1⟩
  obtain ⟨hc1, hf1⟩ := bcell hb1
  have hs1 := hb1.size
  try simp only [size_drew] at hs1
  try simp only [World.size_alloc] at hs1
  try simp only [size_setCell'] at hs1
  try have le1_0 : w.heap.size ≤ w1.heap.size := (by omega)
  try have lt1_0 : w.heap.size < w1.heap.size := (by omega)
  have HB1 : Hid (Below w.heap.size w w1) := Lib.hid (Below.trans (by first | exact HB0.out | exact HB0.out.alloc HB0.out.size _ | exact (HB0.out.alloc HB0.out.size _).alloc (le_al HB0.out.size) _ | exact ((HB0.out.alloc HB0.out.size _).alloc (le_al HB0.out.size) _).alloc (le_al (le_al HB0.out.size)) _ | exact HB0.out.drew | exact (HB0.out.alloc HB0.out.size _).drew | exact ((HB0.out.alloc HB0.out.size _).alloc (le_al HB0.out.size) _).drew) (hb1.mono (by (try simp only [size_drew]); (try simp only [World.size_alloc]); (try simp only [size_setCell']); omega)))
  have HN1 := Lib.hid hb1
  clear hb1 hs1
  go_wp2_with fail
  refine (new_g _).mono ?_
  rintro e w2 ⟨v2', rfl, ⟨gb, mI, mE, rfl, hG2, q1, q2, q3⟩, hb2⟩
  obtain ⟨hc2, hf2⟩ := bcell hb2
  have hs2 := hb2.size
  try simp only [size_drew] at hs2
  try simp only [World.size_alloc] at hs2
  try simp only [size_setCell'] at hs2
  try have le2_0 : w.heap.size ≤ w2.heap.size := (by omega)
  try have lt2_0 : w.heap.size < w2.heap.size := (by omega)
  try have le2_1 : w1.heap.size ≤ w2.heap.size := (by omega)
  try have lt2_1 : w1.heap.size < w2.heap.size := (by omega)
  have HB2 : Hid (Below w.heap.size w w2) := Lib.hid (Below.trans (by first | exact HB1.out | exact HB1.out.alloc HB1.out.size _ | exact (HB1.out.alloc HB1.out.size _).alloc (le_al HB1.out.size) _ | exact ((HB1.out.alloc HB1.out.size _).alloc (le_al HB1.out.size) _).alloc (le_al (le_al HB1.out.size)) _ | exact HB1.out.drew | exact (HB1.out.alloc HB1.out.size _).drew | exact ((HB1.out.alloc HB1.out.size _).alloc (le_al HB1.out.size) _).drew | exact HB0.out | exact HB0.out.alloc HB0.out.size _ | exact (HB0.out.alloc HB0.out.size _).alloc (le_al HB0.out.size) _ | exact ((HB0.out.alloc HB0.out.size _).alloc (le_al HB0.out.size) _).alloc (le_al (le_al HB0.out.size)) _ | exact HB0.out.drew | exact (HB0.out.alloc HB0.out.size _).drew | exact ((HB0.out.alloc HB0.out.size _).alloc (le_al HB0.out.size) _).drew) (hb2.mono (by (try simp only [size_drew]); (try simp only [World.size_alloc]); (try simp only [size_setCell']); omega)))
  have HN2 := Lib.hid hb2
  clear hb2 hs2
  have HG2 := Lib.hid hG2
  have HMM : Hid (w.heap.size ≤ mI ∧ w.heap.size ≤ mE) := Lib.hid ⟨Nat.le_trans HB1.out.size q2, Nat.le_trans HB1.out.size q3⟩
  clear hG2 q1 q2 q3
  go_wp2
  go_loopg [9] kinds.length (fun gg s9 wr => ∃ i : Nat, s9 = .int .i64 i ∧ i ≤ kinds.length ∧ kinds.length - i ≤ gg ∧ Aside (∃ G : Gr, G.Ok ∧ GrAt wr gb mI mE G) ∧ Aside (Below w.heap.size w wr))
  case atStart => exact ⟨0, rfl, Nat.zero_le _, by omega, (show Aside _ from ⟨Gr.new, Gr.Ok.new, HG2.out⟩), (show Aside _ from HB2.out)⟩
  case round =>
    obtain ⟨i, rfl, hil, hgg, hG, hB⟩ := hrel
    have hi0 : (0 : Int) ≤ (i : Int) := by omega
    have hwi : IntKind.i64.wrap ((i : Int) + 1) = (i : Int) + 1 := wrapNat (i + 1) (by omega)
    by_cases hlt : i < kinds.length
    · have d1 : decide (i < ids.length) = true := decide_eq_true (by omega)
      have c1 : (i : Int) < (ids.length : Int) := by omega
      have d2 : decide (i < kinds.length) = true := decide_eq_true (by omega)
      have c2 : (i : Int) < (kinds.length : Int) := by omega
      have d3 : decide (i < 100) = true := decide_eq_true (by omega)
      have c3 : (i : Int) < 100 := by omega
      obtain ⟨b1, o1, rfl, hb1, hc1⟩ := slAt_at (HS1.out wr hB.out) (show i < ids.length by omega)
      obtain ⟨b2, o2, rfl, hb2, hc2⟩ := slAt_at (HS2.out wr hB.out) (show i < kinds.length by omega)
      have x0 := hc1 i (by omega) 0 _ rfl
      have x1 := hc1 i (by omega) 1 _ rfl
      have y0 := hc2 i (by omega) 0 _ rfl
      rw [Nat.add_zero] at x0 y0
      rw [Nat.mul_one] at y0
      obtain ⟨G, hok, hGA⟩ := hG.out
      have HOK := Lib.hid (hok.makeD ids[i]! kinds[i]!)
      have HMK : Hid (∀ W : World, W.heap = wr.heap → Calls Tryz.prog 19 #[.pointer (some ⟨gb, 0, none⟩), (.agg #[.int .i64 ids[i]!.t, .int .i64 ids[i]!.r]), .int .i64 kinds[i]!] W (Done gb mI mE (G.make ids[i]! kinds[i]!) (.int .i64 (G.makeWhy ids[i]! kinds[i]!)) W)) := Lib.hid fun W hW => make_g gb mI mE G ids[i]! kinds[i]! W (hGA.kept (by rw [hW]) (by rw [hW]) (by rw [hW])) hok
      have HK : Hid (∀ W, Turn (Maps2 mI mE) wr W → W.cell? ⟨b1, o1 + i * 2, none⟩ = some (.int .i64 ids[i]!.t) ∧ W.cell? ⟨b1, o1 + i * 2 + 1, none⟩ = some (.int .i64 ids[i]!.r) ∧ W.cell? ⟨b2, o2 + i, none⟩ = some (.int .i64 kinds[i]!)) := Lib.hid fun W hW => ⟨(hW.cell ⟨b1, _, none⟩ hb1).trans x0, (hW.cell ⟨b1, _, none⟩ hb1).trans x1, (hW.cell ⟨b2, _, none⟩ hb2).trans y0⟩
      clear hc1 hc2 hok hGA
      generalize ids[i]! = id at *
      generalize kinds[i]! = kd at *
      go_wp2_with fail
      go_region_held3 (fun W : World => W.cell? ⟨b1, o1 + i * 2, none⟩ = some (.int .i64 id.t) ∧ W.cell? ⟨b1, o1 + i * 2 + 1, none⟩ = some (.int .i64 id.r) ∧ W.cell? ⟨b2, o2 + i, none⟩ = some (.int .i64 kd)) (first | go_keep | exact HK.out _ HT5.out) (first
        | (go_at_call 19; refine (HMK.out wr.drew rfl).mono ?_; rintro e w5 ⟨rfl, hG5, hT5⟩; have HG5 := Lib.hid hG5; have HT5 := Lib.hid (Turn.trans (turn_drew _ wr) hT5); clear hG5 hT5))
      go_wp2
      go_roundg (kinds.length - (i + 1))
      case measure => omega
      case rel => exact ⟨i + 1, by first | rfl | go_num, by omega, by omega, (show Aside _ from ⟨_, HOK.out, HG5.out⟩), (show Aside _ from hB.out.trans (own_below HT5.out HMM.out.1 HMM.out.2 hB.out.size))⟩
    · have d1 : decide (i < ids.length) = true := decide_eq_true (by omega)
      have c1 : (i : Int) < (ids.length : Int) := by omega
      have d2 : decide (i < kinds.length) = false := decide_eq_false (by omega)
      have c2 : ¬ (i : Int) < (kinds.length : Int) := by omega
      have HGX := Lib.hid hG.out
      have HBX := Lib.hid hB.out
      obtain ⟨wo, hwo⟩ : ∃ wo, wo = wr := ⟨_, rfl⟩
      subst hwo
      clear hG hB hlt
      go_wp2
      go_loopg [10] es.length (fun gg s10 wr => ∃ j : Nat, s10 = .int .i64 j ∧ j ≤ es.length ∧ es.length - j ≤ gg ∧ Aside (∃ G : Gr, G.Ok ∧ GrAt wr gb mI mE G) ∧ Aside (Below w.heap.size w wr))
      case atStart => exact ⟨0, rfl, Nat.zero_le _, by omega, (show Aside _ from HGX.out), (show Aside _ from HBX.out)⟩
      case round =>
        obtain ⟨j, rfl, hjl, hgj, hG, hB⟩ := hrel
        have hj0 : (0 : Int) ≤ (j : Int) := by omega
        have hwj : IntKind.i64.wrap ((j : Int) + 1) = (j : Int) + 1 := wrapNat (j + 1) (by omega)
        by_cases hlj : j < es.length
        · have d1 : decide (j < es.length) = true := decide_eq_true (by omega)
          have c1 : (j : Int) < (es.length : Int) := by omega
          have d3 : decide (j < 100) = true := decide_eq_true (by omega)
          have c3 : (j : Int) < 100 := by omega
          obtain ⟨b1, o1, rfl, hb1, hc1⟩ := slAt_at (HS3.out wr hB.out) (show j < es.length by omega)
          have x0 := hc1 j (by omega) 0 _ rfl
          have x1 := hc1 j (by omega) 1 _ rfl
          have x2 := hc1 j (by omega) 2 _ rfl
          have x3 := hc1 j (by omega) 3 _ rfl
          have x4 := hc1 j (by omega) 4 _ rfl
          rw [Nat.add_zero] at x0
          obtain ⟨G, hok, hGA⟩ := hG.out
          have HOK := Lib.hid (hok.tieD es[j]!)
          have htie := tie_g gb mI mE G es[j]! wr hGA hok (by have := hok.few; omega) (HN.out _ (getElem!_mem (show j < es.length by omega)))
          clear hc1 hok hGA
          unfold Ent.v at htie
          generalize es[j]! = x at x0 x1 x2 x3 x4 HOK htie
          have HTI := Lib.hid htie
          clear htie
          go_wp2_with (go_at_call 20; refine HTI.out.mono ?_; rintro e w5 ⟨rfl, hG5, hT5⟩; have HG5 := Lib.hid hG5; have HT5 := Lib.hid hT5; clear hG5 hT5)
          go_roundg (es.length - (j + 1))
          case measure => omega
          case rel => exact ⟨j + 1, by first | rfl | go_num, by omega, by omega, (show Aside _ from ⟨_, HOK.out, HG5.out⟩), (show Aside _ from hB.out.trans (own_below HT5.out HMM.out.1 HMM.out.2 hB.out.size))⟩
        · have d1 : decide (j < es.length) = false := decide_eq_false (by omega)
          have c1 : ¬ (j : Int) < (es.length : Int) := by omega
          obtain ⟨G, hok, hGA⟩ := hG.out
          have HGA := Lib.hid (hGA.reads hok (by have := hok.few; omega))
          have HOK := Lib.hid hok
          have HBW := Lib.hid hB.out
          have HBr0 : Hid (Below wr.heap.size wr wr) := Lib.hid (Below.refl _ _)
          have HFF : Hid ((faults G.n G.e).length ≤ 7 ∧ ∀ z ∈ faults G.n G.e, 5 ≤ z) := Lib.hid ⟨faults_few _ _, faults_high hok⟩
          have HNM : Hid (∀ x ∈ G.e, x.name.size ≤ maxLen) := Lib.hid fun x hx => name_small10 (hok.names x hx)
          clear hG hB hlj hok hGA
          go_wp2_with fail
          refine (HGA.out.inodes _ (by first | exact HBr0.out | exact HBr0.out.alloc HBr0.out.size _ | exact (HBr0.out.alloc HBr0.out.size _).alloc (le_al HBr0.out.size) _ | exact ((HBr0.out.alloc HBr0.out.size _).alloc (le_al HBr0.out.size) _).alloc (le_al (le_al HBr0.out.size)) _ | exact HBr0.out.drew | exact (HBr0.out.alloc HBr0.out.size _).drew | exact ((HBr0.out.alloc HBr0.out.size _).alloc (le_al HBr0.out.size) _).drew)).mono ?_
          rintro e r1 ⟨ia, ic, rfl, hs1, hbr1⟩
          obtain ⟨hcr1, hfr1⟩ := bcell hbr1
          have hsr1 := hbr1.size
          try simp only [size_drew] at hsr1
          try simp only [World.size_alloc] at hsr1
          try simp only [size_setCell'] at hsr1
          try have ler1_0 : wr.heap.size ≤ r1.heap.size := (by omega)
          try have ltr1_0 : wr.heap.size < r1.heap.size := (by omega)
          have HBr1 : Hid (Below wr.heap.size wr r1) := Lib.hid (Below.trans (by first | exact HBr0.out | exact HBr0.out.alloc HBr0.out.size _ | exact (HBr0.out.alloc HBr0.out.size _).alloc (le_al HBr0.out.size) _ | exact ((HBr0.out.alloc HBr0.out.size _).alloc (le_al HBr0.out.size) _).alloc (le_al (le_al HBr0.out.size)) _ | exact HBr0.out.drew | exact (HBr0.out.alloc HBr0.out.size _).drew | exact ((HBr0.out.alloc HBr0.out.size _).alloc (le_al HBr0.out.size) _).drew) (hbr1.mono (by (try simp only [size_drew]); (try simp only [World.size_alloc]); (try simp only [size_setCell']); omega)))
          have HNr1 := Lib.hid hbr1
          clear hbr1 hsr1
          have HI1 := Lib.hid hs1
          clear hs1
          go_wp2_with fail
          refine (HGA.out.entries _ (by first | exact HBr1.out | exact HBr1.out.alloc HBr1.out.size _ | exact (HBr1.out.alloc HBr1.out.size _).alloc (le_al HBr1.out.size) _ | exact ((HBr1.out.alloc HBr1.out.size _).alloc (le_al HBr1.out.size) _).alloc (le_al (le_al HBr1.out.size)) _ | exact HBr1.out.drew | exact (HBr1.out.alloc HBr1.out.size _).drew | exact ((HBr1.out.alloc HBr1.out.size _).alloc (le_al HBr1.out.size) _).drew | exact HBr0.out | exact HBr0.out.alloc HBr0.out.size _ | exact (HBr0.out.alloc HBr0.out.size _).alloc (le_al HBr0.out.size) _ | exact ((HBr0.out.alloc HBr0.out.size _).alloc (le_al HBr0.out.size) _).alloc (le_al (le_al HBr0.out.size)) _ | exact HBr0.out.drew | exact (HBr0.out.alloc HBr0.out.size _).drew | exact ((HBr0.out.alloc HBr0.out.size _).alloc (le_al HBr0.out.size) _).drew)).mono ?_
          rintro e r2 ⟨ea, ec, rfl, hs2, hbr2⟩
          obtain ⟨hcr2, hfr2⟩ := bcell hbr2
          have hsr2 := hbr2.size
          try simp only [size_drew] at hsr2
          try simp only [World.size_alloc] at hsr2
          try simp only [size_setCell'] at hsr2
          try have ler2_0 : wr.heap.size ≤ r2.heap.size := (by omega)
          try have ltr2_0 : wr.heap.size < r2.heap.size := (by omega)
          try have ler2_1 : r1.heap.size ≤ r2.heap.size := (by omega)
          try have ltr2_1 : r1.heap.size < r2.heap.size := (by omega)
          have HBr2 : Hid (Below wr.heap.size wr r2) := Lib.hid (Below.trans (by first | exact HBr1.out | exact HBr1.out.alloc HBr1.out.size _ | exact (HBr1.out.alloc HBr1.out.size _).alloc (le_al HBr1.out.size) _ | exact ((HBr1.out.alloc HBr1.out.size _).alloc (le_al HBr1.out.size) _).alloc (le_al (le_al HBr1.out.size)) _ | exact HBr1.out.drew | exact (HBr1.out.alloc HBr1.out.size _).drew | exact ((HBr1.out.alloc HBr1.out.size _).alloc (le_al HBr1.out.size) _).drew | exact HBr0.out | exact HBr0.out.alloc HBr0.out.size _ | exact (HBr0.out.alloc HBr0.out.size _).alloc (le_al HBr0.out.size) _ | exact ((HBr0.out.alloc HBr0.out.size _).alloc (le_al HBr0.out.size) _).alloc (le_al (le_al HBr0.out.size)) _ | exact HBr0.out.drew | exact (HBr0.out.alloc HBr0.out.size _).drew | exact ((HBr0.out.alloc HBr0.out.size _).alloc (le_al HBr0.out.size) _).drew) (hbr2.mono (by (try simp only [size_drew]); (try simp only [World.size_alloc]); (try simp only [size_setCell']); omega)))
          have HNr2 := Lib.hid hbr2
          clear hbr2 hsr2
          have HCK := Lib.hid (check_any _ _ G.n G.e r2 (HI1.out.below HNr2.out) hs2 (by have := HOK.out.len; omega) (by have := HOK.out.few; omega) HNM.out)
          clear hs2
          go_wp2_with fail
          refine (HCK.out).mono ?_
          rintro e r3 ⟨cv, rfl, hrow, hbr3⟩
          obtain ⟨hcr3, hfr3⟩ := bcell hbr3
          have hsr3 := hbr3.size
          try simp only [size_drew] at hsr3
          try simp only [World.size_alloc] at hsr3
          try simp only [size_setCell'] at hsr3
          try have ler3_0 : wr.heap.size ≤ r3.heap.size := (by omega)
          try have ltr3_0 : wr.heap.size < r3.heap.size := (by omega)
          try have ler3_1 : r1.heap.size ≤ r3.heap.size := (by omega)
          try have ltr3_1 : r1.heap.size < r3.heap.size := (by omega)
          try have ler3_2 : r2.heap.size ≤ r3.heap.size := (by omega)
          try have ltr3_2 : r2.heap.size < r3.heap.size := (by omega)
          have HBr3 : Hid (Below wr.heap.size wr r3) := Lib.hid (Below.trans (by first | exact HBr2.out | exact HBr2.out.alloc HBr2.out.size _ | exact (HBr2.out.alloc HBr2.out.size _).alloc (le_al HBr2.out.size) _ | exact ((HBr2.out.alloc HBr2.out.size _).alloc (le_al HBr2.out.size) _).alloc (le_al (le_al HBr2.out.size)) _ | exact HBr2.out.drew | exact (HBr2.out.alloc HBr2.out.size _).drew | exact ((HBr2.out.alloc HBr2.out.size _).alloc (le_al HBr2.out.size) _).drew | exact HBr1.out | exact HBr1.out.alloc HBr1.out.size _ | exact (HBr1.out.alloc HBr1.out.size _).alloc (le_al HBr1.out.size) _ | exact ((HBr1.out.alloc HBr1.out.size _).alloc (le_al HBr1.out.size) _).alloc (le_al (le_al HBr1.out.size)) _ | exact HBr1.out.drew | exact (HBr1.out.alloc HBr1.out.size _).drew | exact ((HBr1.out.alloc HBr1.out.size _).alloc (le_al HBr1.out.size) _).drew | exact HBr0.out | exact HBr0.out.alloc HBr0.out.size _ | exact (HBr0.out.alloc HBr0.out.size _).alloc (le_al HBr0.out.size) _ | exact ((HBr0.out.alloc HBr0.out.size _).alloc (le_al HBr0.out.size) _).alloc (le_al (le_al HBr0.out.size)) _ | exact HBr0.out.drew | exact (HBr0.out.alloc HBr0.out.size _).drew | exact ((HBr0.out.alloc HBr0.out.size _).alloc (le_al HBr0.out.size) _).drew) (hbr3.mono (by (try simp only [size_drew]); (try simp only [World.size_alloc]); (try simp only [size_setCell']); omega)))
          have HNr3 := Lib.hid hbr3
          clear hbr3 hsr3
          rw [← i64_map] at hrow
          have hsl : SlAt r3 1 I64.cells cv (faults G.n G.e) := SlAt.of_row (fun _ => rfl) hrow
          have HFL := Lib.hid hsl
          obtain ⟨fa, fc, rfl⟩ := hsl.len
          clear hrow hsl
          generalize faults G.n G.e = F at *
          obtain ⟨wo2, hwo2⟩ : ∃ wo2, wo2 = wr := ⟨_, rfl⟩
          subst hwo2
          go_wp2
          go_loopg [12] F.length (fun gg s12 wr => ∃ k : Nat, s12 = .int .i64 k ∧ k ≤ F.length ∧ F.length - k ≤ gg ∧ Aside (Below r3.heap.size r3 wr))
          case atStart => exact ⟨0, rfl, Nat.zero_le _, by omega, (show Aside _ from Below.refl _ _)⟩
          case round =>
            obtain ⟨k, rfl, hkl, hgk, hB⟩ := hrel
            have hk0 : (0 : Int) ≤ (k : Int) := by omega
            have hwk : IntKind.i64.wrap ((k : Int) + 1) = (k : Int) + 1 := wrapNat (k + 1) (by have := HFF.out.1; omega)
            by_cases hlk : k < F.length
            · have c1 : (k : Int) < (F.length : Int) := by omega
              obtain ⟨fb, fo, rfl, _, hfc⟩ := slAt_at (HFL.out.below hB.out) hlk
              have x0 := hfc k hlk 0 _ rfl
              rw [Nat.add_zero, Nat.mul_one] at x0
              have h5 : decide (F[k]! < 5) = false := by rw [decide_eq_false_iff_not]; have := HFF.out.2 _ (getElem!_mem hlk); omega
              clear hfc
              generalize F[k]! = z at *
              go_wp2
              go_roundg (F.length - (k + 1))
              case measure => omega
              case rel => exact ⟨k + 1, by first | rfl | go_num, by omega, by omega, (show Aside _ from hB.out)⟩
            · have c1 : ¬ (k : Int) < (F.length : Int) := by omega
              clear hlk
              go_wp2
              go_ret
              exact ⟨rfl, HBW.out.trans ((HBr3.out.trans (hB.out.mono HBr3.out.size)).mono HBW.out.size)⟩

set_option maxRecDepth 100000 in
set_option maxHeartbeats 8000000 in
theorem graph_kinds_top (v1 : Value) (ids : List St) (v2 : Value) (kinds : List Int) (v3 : Value) (es : List Ent) (w : World) (hs1 : SlAt w 2 St.cells v1 ids) (_hn1 : ∀ z ∈ ids, True) (hs2 : SlAt w 1 I64.cells v2 kinds) (_hn2 : ∀ z ∈ kinds, True) (hs3 : SlAt w 5 Ent.cells v3 es) (hn3 : ∀ z ∈ es, z.name.size ≤ maxLen) (hA : kinds.length < ids.length) (hA2 : kinds.length ≤ 100) (hB : 100 < es.length) :
    Calls Tryz.prog 3 #[v1, v2, v3] w fun y w' => y = .returned (.bool true) ∧ Below w.heap.size w w' := by
  have HS1 : Hid (∀ W, Below w.heap.size w W → SlAt W 2 St.cells v1 ids) := Lib.hid fun W hW => hs1.below hW
  have HS2 : Hid (∀ W, Below w.heap.size w W → SlAt W 1 I64.cells v2 kinds) := Lib.hid fun W hW => hs2.below hW
  have HS3 : Hid (∀ W, Below w.heap.size w W → SlAt W 5 Ent.cells v3 es) := Lib.hid fun W hW => hs3.below hW
  have HN := Lib.hid hn3
  have HB0 : Hid (Below w.heap.size w w) := Lib.hid (Below.refl _ _)
  obtain ⟨a1, c1_, rfl⟩ := hs1.len
  obtain ⟨a2, c2_, rfl⟩ := hs2.len
  obtain ⟨a3, c3_, rfl⟩ := hs3.len
  clear hs1 hs2 hs3 hn3 _hn1 _hn2
  go_enter Tryz.func3, Tryz.ntmps3
  go_wp2_with fail
  refine (shown_any _).mono ?_
  rintro e w1 ⟨rfl, hb1⟩
  obtain ⟨hc1, hf1⟩ := bcell hb1
  have hs1 := hb1.size
  try simp only [size_drew] at hs1
  try simp only [World.size_alloc] at hs1
  try simp only [size_setCell'] at hs1
  try have le1_0 : w.heap.size ≤ w1.heap.size := (by omega)
  try have lt1_0 : w.heap.size < w1.heap.size := (by omega)
  have HB1 : Hid (Below w.heap.size w w1) := Lib.hid (Below.trans (by first | exact HB0.out | exact HB0.out.alloc HB0.out.size _ | exact (HB0.out.alloc HB0.out.size _).alloc (le_al HB0.out.size) _ | exact ((HB0.out.alloc HB0.out.size _).alloc (le_al HB0.out.size) _).alloc (le_al (le_al HB0.out.size)) _ | exact HB0.out.drew | exact (HB0.out.alloc HB0.out.size _).drew | exact ((HB0.out.alloc HB0.out.size _).alloc (le_al HB0.out.size) _).drew) (hb1.mono (by (try simp only [size_drew]); (try simp only [World.size_alloc]); (try simp only [size_setCell']); omega)))
  have HN1 := Lib.hid hb1
  clear hb1 hs1
  go_wp2_with fail
  refine (new_g _).mono ?_
  rintro e w2 ⟨v2', rfl, ⟨gb, mI, mE, rfl, hG2, q1, q2, q3⟩, hb2⟩
  obtain ⟨hc2, hf2⟩ := bcell hb2
  have hs2 := hb2.size
  try simp only [size_drew] at hs2
  try simp only [World.size_alloc] at hs2
  try simp only [size_setCell'] at hs2
  try have le2_0 : w.heap.size ≤ w2.heap.size := (by omega)
  try have lt2_0 : w.heap.size < w2.heap.size := (by omega)
  try have le2_1 : w1.heap.size ≤ w2.heap.size := (by omega)
  try have lt2_1 : w1.heap.size < w2.heap.size := (by omega)
  have HB2 : Hid (Below w.heap.size w w2) := Lib.hid (Below.trans (by first | exact HB1.out | exact HB1.out.alloc HB1.out.size _ | exact (HB1.out.alloc HB1.out.size _).alloc (le_al HB1.out.size) _ | exact ((HB1.out.alloc HB1.out.size _).alloc (le_al HB1.out.size) _).alloc (le_al (le_al HB1.out.size)) _ | exact HB1.out.drew | exact (HB1.out.alloc HB1.out.size _).drew | exact ((HB1.out.alloc HB1.out.size _).alloc (le_al HB1.out.size) _).drew | exact HB0.out | exact HB0.out.alloc HB0.out.size _ | exact (HB0.out.alloc HB0.out.size _).alloc (le_al HB0.out.size) _ | exact ((HB0.out.alloc HB0.out.size _).alloc (le_al HB0.out.size) _).alloc (le_al (le_al HB0.out.size)) _ | exact HB0.out.drew | exact (HB0.out.alloc HB0.out.size _).drew | exact ((HB0.out.alloc HB0.out.size _).alloc (le_al HB0.out.size) _).drew) (hb2.mono (by (try simp only [size_drew]); (try simp only [World.size_alloc]); (try simp only [size_setCell']); omega)))
  have HN2 := Lib.hid hb2
  clear hb2 hs2
  have HG2 := Lib.hid hG2
  have HMM : Hid (w.heap.size ≤ mI ∧ w.heap.size ≤ mE) := Lib.hid ⟨Nat.le_trans HB1.out.size q2, Nat.le_trans HB1.out.size q3⟩
  clear hG2 q1 q2 q3
  go_wp2
  go_loopg [9] kinds.length (fun gg s9 wr => ∃ i : Nat, s9 = .int .i64 i ∧ i ≤ kinds.length ∧ kinds.length - i ≤ gg ∧ Aside (∃ G : Gr, G.Ok ∧ GrAt wr gb mI mE G) ∧ Aside (Below w.heap.size w wr))
  case atStart => exact ⟨0, rfl, Nat.zero_le _, by omega, (show Aside _ from ⟨Gr.new, Gr.Ok.new, HG2.out⟩), (show Aside _ from HB2.out)⟩
  case round =>
    obtain ⟨i, rfl, hil, hgg, hG, hB⟩ := hrel
    have hi0 : (0 : Int) ≤ (i : Int) := by omega
    have hwi : IntKind.i64.wrap ((i : Int) + 1) = (i : Int) + 1 := wrapNat (i + 1) (by omega)
    by_cases hlt : i < kinds.length
    · have d1 : decide (i < ids.length) = true := decide_eq_true (by omega)
      have c1 : (i : Int) < (ids.length : Int) := by omega
      have d2 : decide (i < kinds.length) = true := decide_eq_true (by omega)
      have c2 : (i : Int) < (kinds.length : Int) := by omega
      have d3 : decide (i < 100) = true := decide_eq_true (by omega)
      have c3 : (i : Int) < 100 := by omega
      obtain ⟨b1, o1, rfl, hb1, hc1⟩ := slAt_at (HS1.out wr hB.out) (show i < ids.length by omega)
      obtain ⟨b2, o2, rfl, hb2, hc2⟩ := slAt_at (HS2.out wr hB.out) (show i < kinds.length by omega)
      have x0 := hc1 i (by omega) 0 _ rfl
      have x1 := hc1 i (by omega) 1 _ rfl
      have y0 := hc2 i (by omega) 0 _ rfl
      rw [Nat.add_zero] at x0 y0
      rw [Nat.mul_one] at y0
      obtain ⟨G, hok, hGA⟩ := hG.out
      have HOK := Lib.hid (hok.makeD ids[i]! kinds[i]!)
      have HMK : Hid (∀ W : World, W.heap = wr.heap → Calls Tryz.prog 19 #[.pointer (some ⟨gb, 0, none⟩), (.agg #[.int .i64 ids[i]!.t, .int .i64 ids[i]!.r]), .int .i64 kinds[i]!] W (Done gb mI mE (G.make ids[i]! kinds[i]!) (.int .i64 (G.makeWhy ids[i]! kinds[i]!)) W)) := Lib.hid fun W hW => make_g gb mI mE G ids[i]! kinds[i]! W (hGA.kept (by rw [hW]) (by rw [hW]) (by rw [hW])) hok
      have HK : Hid (∀ W, Turn (Maps2 mI mE) wr W → W.cell? ⟨b1, o1 + i * 2, none⟩ = some (.int .i64 ids[i]!.t) ∧ W.cell? ⟨b1, o1 + i * 2 + 1, none⟩ = some (.int .i64 ids[i]!.r) ∧ W.cell? ⟨b2, o2 + i, none⟩ = some (.int .i64 kinds[i]!)) := Lib.hid fun W hW => ⟨(hW.cell ⟨b1, _, none⟩ hb1).trans x0, (hW.cell ⟨b1, _, none⟩ hb1).trans x1, (hW.cell ⟨b2, _, none⟩ hb2).trans y0⟩
      clear hc1 hc2 hok hGA
      generalize ids[i]! = id at *
      generalize kinds[i]! = kd at *
      go_wp2_with fail
      go_region_held3 (fun W : World => W.cell? ⟨b1, o1 + i * 2, none⟩ = some (.int .i64 id.t) ∧ W.cell? ⟨b1, o1 + i * 2 + 1, none⟩ = some (.int .i64 id.r) ∧ W.cell? ⟨b2, o2 + i, none⟩ = some (.int .i64 kd)) (first | go_keep | exact HK.out _ HT5.out) (first
        | (go_at_call 19; refine (HMK.out wr.drew rfl).mono ?_; rintro e w5 ⟨rfl, hG5, hT5⟩; have HG5 := Lib.hid hG5; have HT5 := Lib.hid (Turn.trans (turn_drew _ wr) hT5); clear hG5 hT5))
      go_wp2
      go_roundg (kinds.length - (i + 1))
      case measure => omega
      case rel => exact ⟨i + 1, by first | rfl | go_num, by omega, by omega, (show Aside _ from ⟨_, HOK.out, HG5.out⟩), (show Aside _ from hB.out.trans (own_below HT5.out HMM.out.1 HMM.out.2 hB.out.size))⟩
    · have d1 : decide (i < ids.length) = true := decide_eq_true (by omega)
      have c1 : (i : Int) < (ids.length : Int) := by omega
      have d2 : decide (i < kinds.length) = false := decide_eq_false (by omega)
      have c2 : ¬ (i : Int) < (kinds.length : Int) := by omega
      have HGX := Lib.hid hG.out
      have HBX := Lib.hid hB.out
      obtain ⟨wo, hwo⟩ : ∃ wo, wo = wr := ⟨_, rfl⟩
      subst hwo
      clear hG hB hlt
      go_wp2
      go_loopg [10] 100 (fun gg s10 wr => ∃ j : Nat, s10 = .int .i64 j ∧ j ≤ 100 ∧ 100 - j ≤ gg ∧ Aside (∃ G : Gr, G.Ok ∧ GrAt wr gb mI mE G) ∧ Aside (Below w.heap.size w wr))
      case atStart => exact ⟨0, rfl, Nat.zero_le _, by omega, (show Aside _ from HGX.out), (show Aside _ from HBX.out)⟩
      case round =>
        obtain ⟨j, rfl, hjl, hgj, hG, hB⟩ := hrel
        have hj0 : (0 : Int) ≤ (j : Int) := by omega
        have hwj : IntKind.i64.wrap ((j : Int) + 1) = (j : Int) + 1 := wrapNat (j + 1) (by omega)
        by_cases hlj : j < 100
        · have d1 : decide (j < es.length) = true := decide_eq_true (by omega)
          have c1 : (j : Int) < (es.length : Int) := by omega
          have d3 : decide (j < 100) = true := decide_eq_true (by omega)
          have c3 : (j : Int) < 100 := by omega
          obtain ⟨b1, o1, rfl, hb1, hc1⟩ := slAt_at (HS3.out wr hB.out) (show j < es.length by omega)
          have x0 := hc1 j (by omega) 0 _ rfl
          have x1 := hc1 j (by omega) 1 _ rfl
          have x2 := hc1 j (by omega) 2 _ rfl
          have x3 := hc1 j (by omega) 3 _ rfl
          have x4 := hc1 j (by omega) 4 _ rfl
          rw [Nat.add_zero] at x0
          obtain ⟨G, hok, hGA⟩ := hG.out
          have HOK := Lib.hid (hok.tieD es[j]!)
          have htie := tie_g gb mI mE G es[j]! wr hGA hok (by have := hok.few; omega) (HN.out _ (getElem!_mem (show j < es.length by omega)))
          clear hc1 hok hGA
          unfold Ent.v at htie
          generalize es[j]! = x at x0 x1 x2 x3 x4 HOK htie
          have HTI := Lib.hid htie
          clear htie
          go_wp2_with (go_at_call 20; refine HTI.out.mono ?_; rintro e w5 ⟨rfl, hG5, hT5⟩; have HG5 := Lib.hid hG5; have HT5 := Lib.hid hT5; clear hG5 hT5)
          go_roundg (100 - (j + 1))
          case measure => omega
          case rel => exact ⟨j + 1, by first | rfl | go_num, by omega, by omega, (show Aside _ from ⟨_, HOK.out, HG5.out⟩), (show Aside _ from hB.out.trans (own_below HT5.out HMM.out.1 HMM.out.2 hB.out.size))⟩
        · have d1 : decide (j < es.length) = true := decide_eq_true (by omega)
          have c1 : (j : Int) < (es.length : Int) := by omega
          have d3 : decide (j < 100) = false := decide_eq_false (by omega)
          have c3 : ¬ (j : Int) < 100 := by omega
          obtain ⟨G, hok, hGA⟩ := hG.out
          have HGA := Lib.hid (hGA.reads hok (by have := hok.few; omega))
          have HOK := Lib.hid hok
          have HBW := Lib.hid hB.out
          have HBr0 : Hid (Below wr.heap.size wr wr) := Lib.hid (Below.refl _ _)
          have HFF : Hid ((faults G.n G.e).length ≤ 7 ∧ ∀ z ∈ faults G.n G.e, 5 ≤ z) := Lib.hid ⟨faults_few _ _, faults_high hok⟩
          have HNM : Hid (∀ x ∈ G.e, x.name.size ≤ maxLen) := Lib.hid fun x hx => name_small10 (hok.names x hx)
          clear hG hB hlj hok hGA
          go_wp2_with fail
          refine (HGA.out.inodes _ (by first | exact HBr0.out | exact HBr0.out.alloc HBr0.out.size _ | exact (HBr0.out.alloc HBr0.out.size _).alloc (le_al HBr0.out.size) _ | exact ((HBr0.out.alloc HBr0.out.size _).alloc (le_al HBr0.out.size) _).alloc (le_al (le_al HBr0.out.size)) _ | exact HBr0.out.drew | exact (HBr0.out.alloc HBr0.out.size _).drew | exact ((HBr0.out.alloc HBr0.out.size _).alloc (le_al HBr0.out.size) _).drew)).mono ?_
          rintro e r1 ⟨ia, ic, rfl, hs1, hbr1⟩
          obtain ⟨hcr1, hfr1⟩ := bcell hbr1
          have hsr1 := hbr1.size
          try simp only [size_drew] at hsr1
          try simp only [World.size_alloc] at hsr1
          try simp only [size_setCell'] at hsr1
          try have ler1_0 : wr.heap.size ≤ r1.heap.size := (by omega)
          try have ltr1_0 : wr.heap.size < r1.heap.size := (by omega)
          have HBr1 : Hid (Below wr.heap.size wr r1) := Lib.hid (Below.trans (by first | exact HBr0.out | exact HBr0.out.alloc HBr0.out.size _ | exact (HBr0.out.alloc HBr0.out.size _).alloc (le_al HBr0.out.size) _ | exact ((HBr0.out.alloc HBr0.out.size _).alloc (le_al HBr0.out.size) _).alloc (le_al (le_al HBr0.out.size)) _ | exact HBr0.out.drew | exact (HBr0.out.alloc HBr0.out.size _).drew | exact ((HBr0.out.alloc HBr0.out.size _).alloc (le_al HBr0.out.size) _).drew) (hbr1.mono (by (try simp only [size_drew]); (try simp only [World.size_alloc]); (try simp only [size_setCell']); omega)))
          have HNr1 := Lib.hid hbr1
          clear hbr1 hsr1
          have HI1 := Lib.hid hs1
          clear hs1
          go_wp2_with fail
          refine (HGA.out.entries _ (by first | exact HBr1.out | exact HBr1.out.alloc HBr1.out.size _ | exact (HBr1.out.alloc HBr1.out.size _).alloc (le_al HBr1.out.size) _ | exact ((HBr1.out.alloc HBr1.out.size _).alloc (le_al HBr1.out.size) _).alloc (le_al (le_al HBr1.out.size)) _ | exact HBr1.out.drew | exact (HBr1.out.alloc HBr1.out.size _).drew | exact ((HBr1.out.alloc HBr1.out.size _).alloc (le_al HBr1.out.size) _).drew | exact HBr0.out | exact HBr0.out.alloc HBr0.out.size _ | exact (HBr0.out.alloc HBr0.out.size _).alloc (le_al HBr0.out.size) _ | exact ((HBr0.out.alloc HBr0.out.size _).alloc (le_al HBr0.out.size) _).alloc (le_al (le_al HBr0.out.size)) _ | exact HBr0.out.drew | exact (HBr0.out.alloc HBr0.out.size _).drew | exact ((HBr0.out.alloc HBr0.out.size _).alloc (le_al HBr0.out.size) _).drew)).mono ?_
          rintro e r2 ⟨ea, ec, rfl, hs2, hbr2⟩
          obtain ⟨hcr2, hfr2⟩ := bcell hbr2
          have hsr2 := hbr2.size
          try simp only [size_drew] at hsr2
          try simp only [World.size_alloc] at hsr2
          try simp only [size_setCell'] at hsr2
          try have ler2_0 : wr.heap.size ≤ r2.heap.size := (by omega)
          try have ltr2_0 : wr.heap.size < r2.heap.size := (by omega)
          try have ler2_1 : r1.heap.size ≤ r2.heap.size := (by omega)
          try have ltr2_1 : r1.heap.size < r2.heap.size := (by omega)
          have HBr2 : Hid (Below wr.heap.size wr r2) := Lib.hid (Below.trans (by first | exact HBr1.out | exact HBr1.out.alloc HBr1.out.size _ | exact (HBr1.out.alloc HBr1.out.size _).alloc (le_al HBr1.out.size) _ | exact ((HBr1.out.alloc HBr1.out.size _).alloc (le_al HBr1.out.size) _).alloc (le_al (le_al HBr1.out.size)) _ | exact HBr1.out.drew | exact (HBr1.out.alloc HBr1.out.size _).drew | exact ((HBr1.out.alloc HBr1.out.size _).alloc (le_al HBr1.out.size) _).drew | exact HBr0.out | exact HBr0.out.alloc HBr0.out.size _ | exact (HBr0.out.alloc HBr0.out.size _).alloc (le_al HBr0.out.size) _ | exact ((HBr0.out.alloc HBr0.out.size _).alloc (le_al HBr0.out.size) _).alloc (le_al (le_al HBr0.out.size)) _ | exact HBr0.out.drew | exact (HBr0.out.alloc HBr0.out.size _).drew | exact ((HBr0.out.alloc HBr0.out.size _).alloc (le_al HBr0.out.size) _).drew) (hbr2.mono (by (try simp only [size_drew]); (try simp only [World.size_alloc]); (try simp only [size_setCell']); omega)))
          have HNr2 := Lib.hid hbr2
          clear hbr2 hsr2
          have HCK := Lib.hid (check_any _ _ G.n G.e r2 (HI1.out.below HNr2.out) hs2 (by have := HOK.out.len; omega) (by have := HOK.out.few; omega) HNM.out)
          clear hs2
          go_wp2_with fail
          refine (HCK.out).mono ?_
          rintro e r3 ⟨cv, rfl, hrow, hbr3⟩
          obtain ⟨hcr3, hfr3⟩ := bcell hbr3
          have hsr3 := hbr3.size
          try simp only [size_drew] at hsr3
          try simp only [World.size_alloc] at hsr3
          try simp only [size_setCell'] at hsr3
          try have ler3_0 : wr.heap.size ≤ r3.heap.size := (by omega)
          try have ltr3_0 : wr.heap.size < r3.heap.size := (by omega)
          try have ler3_1 : r1.heap.size ≤ r3.heap.size := (by omega)
          try have ltr3_1 : r1.heap.size < r3.heap.size := (by omega)
          try have ler3_2 : r2.heap.size ≤ r3.heap.size := (by omega)
          try have ltr3_2 : r2.heap.size < r3.heap.size := (by omega)
          have HBr3 : Hid (Below wr.heap.size wr r3) := Lib.hid (Below.trans (by first | exact HBr2.out | exact HBr2.out.alloc HBr2.out.size _ | exact (HBr2.out.alloc HBr2.out.size _).alloc (le_al HBr2.out.size) _ | exact ((HBr2.out.alloc HBr2.out.size _).alloc (le_al HBr2.out.size) _).alloc (le_al (le_al HBr2.out.size)) _ | exact HBr2.out.drew | exact (HBr2.out.alloc HBr2.out.size _).drew | exact ((HBr2.out.alloc HBr2.out.size _).alloc (le_al HBr2.out.size) _).drew | exact HBr1.out | exact HBr1.out.alloc HBr1.out.size _ | exact (HBr1.out.alloc HBr1.out.size _).alloc (le_al HBr1.out.size) _ | exact ((HBr1.out.alloc HBr1.out.size _).alloc (le_al HBr1.out.size) _).alloc (le_al (le_al HBr1.out.size)) _ | exact HBr1.out.drew | exact (HBr1.out.alloc HBr1.out.size _).drew | exact ((HBr1.out.alloc HBr1.out.size _).alloc (le_al HBr1.out.size) _).drew | exact HBr0.out | exact HBr0.out.alloc HBr0.out.size _ | exact (HBr0.out.alloc HBr0.out.size _).alloc (le_al HBr0.out.size) _ | exact ((HBr0.out.alloc HBr0.out.size _).alloc (le_al HBr0.out.size) _).alloc (le_al (le_al HBr0.out.size)) _ | exact HBr0.out.drew | exact (HBr0.out.alloc HBr0.out.size _).drew | exact ((HBr0.out.alloc HBr0.out.size _).alloc (le_al HBr0.out.size) _).drew) (hbr3.mono (by (try simp only [size_drew]); (try simp only [World.size_alloc]); (try simp only [size_setCell']); omega)))
          have HNr3 := Lib.hid hbr3
          clear hbr3 hsr3
          rw [← i64_map] at hrow
          have hsl : SlAt r3 1 I64.cells cv (faults G.n G.e) := SlAt.of_row (fun _ => rfl) hrow
          have HFL := Lib.hid hsl
          obtain ⟨fa, fc, rfl⟩ := hsl.len
          clear hrow hsl
          generalize faults G.n G.e = F at *
          obtain ⟨wo2, hwo2⟩ : ∃ wo2, wo2 = wr := ⟨_, rfl⟩
          subst hwo2
          go_wp2
          go_loopg [12] F.length (fun gg s12 wr => ∃ k : Nat, s12 = .int .i64 k ∧ k ≤ F.length ∧ F.length - k ≤ gg ∧ Aside (Below r3.heap.size r3 wr))
          case atStart => exact ⟨0, rfl, Nat.zero_le _, by omega, (show Aside _ from Below.refl _ _)⟩
          case round =>
            obtain ⟨k, rfl, hkl, hgk, hB⟩ := hrel
            have hk0 : (0 : Int) ≤ (k : Int) := by omega
            have hwk : IntKind.i64.wrap ((k : Int) + 1) = (k : Int) + 1 := wrapNat (k + 1) (by have := HFF.out.1; omega)
            by_cases hlk : k < F.length
            · have c1 : (k : Int) < (F.length : Int) := by omega
              obtain ⟨fb, fo, rfl, _, hfc⟩ := slAt_at (HFL.out.below hB.out) hlk
              have x0 := hfc k hlk 0 _ rfl
              rw [Nat.add_zero, Nat.mul_one] at x0
              have h5 : decide (F[k]! < 5) = false := by rw [decide_eq_false_iff_not]; have := HFF.out.2 _ (getElem!_mem hlk); omega
              clear hfc
              generalize F[k]! = z at *
              go_wp2
              go_roundg (F.length - (k + 1))
              case measure => omega
              case rel => exact ⟨k + 1, by first | rfl | go_num, by omega, by omega, (show Aside _ from hB.out)⟩
            · have c1 : ¬ (k : Int) < (F.length : Int) := by omega
              clear hlk
              go_wp2
              go_ret
              exact ⟨rfl, HBW.out.trans ((HBr3.out.trans (hB.out.mono HBr3.out.size)).mono HBW.out.size)⟩

set_option maxRecDepth 100000 in
set_option maxHeartbeats 8000000 in
theorem graph_top_es (v1 : Value) (ids : List St) (v2 : Value) (kinds : List Int) (v3 : Value) (es : List Ent) (w : World) (hs1 : SlAt w 2 St.cells v1 ids) (_hn1 : ∀ z ∈ ids, True) (hs2 : SlAt w 1 I64.cells v2 kinds) (_hn2 : ∀ z ∈ kinds, True) (hs3 : SlAt w 5 Ent.cells v3 es) (hn3 : ∀ z ∈ es, z.name.size ≤ maxLen) (hA : 100 < ids.length) (hA2 : 100 < kinds.length) (hB : es.length ≤ 100) :
    Calls Tryz.prog 3 #[v1, v2, v3] w fun y w' => y = .returned (.bool true) ∧ Below w.heap.size w w' := by
  have HS1 : Hid (∀ W, Below w.heap.size w W → SlAt W 2 St.cells v1 ids) := Lib.hid fun W hW => hs1.below hW
  have HS2 : Hid (∀ W, Below w.heap.size w W → SlAt W 1 I64.cells v2 kinds) := Lib.hid fun W hW => hs2.below hW
  have HS3 : Hid (∀ W, Below w.heap.size w W → SlAt W 5 Ent.cells v3 es) := Lib.hid fun W hW => hs3.below hW
  have HN := Lib.hid hn3
  have HB0 : Hid (Below w.heap.size w w) := Lib.hid (Below.refl _ _)
  obtain ⟨a1, c1_, rfl⟩ := hs1.len
  obtain ⟨a2, c2_, rfl⟩ := hs2.len
  obtain ⟨a3, c3_, rfl⟩ := hs3.len
  clear hs1 hs2 hs3 hn3 _hn1 _hn2
  go_enter Tryz.func3, Tryz.ntmps3
  go_wp2_with fail
  refine (shown_any _).mono ?_
  rintro e w1 ⟨rfl, hb1⟩
  obtain ⟨hc1, hf1⟩ := bcell hb1
  have hs1 := hb1.size
  try simp only [size_drew] at hs1
  try simp only [World.size_alloc] at hs1
  try simp only [size_setCell'] at hs1
  try have le1_0 : w.heap.size ≤ w1.heap.size := (by omega)
  try have lt1_0 : w.heap.size < w1.heap.size := (by omega)
  have HB1 : Hid (Below w.heap.size w w1) := Lib.hid (Below.trans (by first | exact HB0.out | exact HB0.out.alloc HB0.out.size _ | exact (HB0.out.alloc HB0.out.size _).alloc (le_al HB0.out.size) _ | exact ((HB0.out.alloc HB0.out.size _).alloc (le_al HB0.out.size) _).alloc (le_al (le_al HB0.out.size)) _ | exact HB0.out.drew | exact (HB0.out.alloc HB0.out.size _).drew | exact ((HB0.out.alloc HB0.out.size _).alloc (le_al HB0.out.size) _).drew) (hb1.mono (by (try simp only [size_drew]); (try simp only [World.size_alloc]); (try simp only [size_setCell']); omega)))
  have HN1 := Lib.hid hb1
  clear hb1 hs1
  go_wp2_with fail
  refine (new_g _).mono ?_
  rintro e w2 ⟨v2', rfl, ⟨gb, mI, mE, rfl, hG2, q1, q2, q3⟩, hb2⟩
  obtain ⟨hc2, hf2⟩ := bcell hb2
  have hs2 := hb2.size
  try simp only [size_drew] at hs2
  try simp only [World.size_alloc] at hs2
  try simp only [size_setCell'] at hs2
  try have le2_0 : w.heap.size ≤ w2.heap.size := (by omega)
  try have lt2_0 : w.heap.size < w2.heap.size := (by omega)
  try have le2_1 : w1.heap.size ≤ w2.heap.size := (by omega)
  try have lt2_1 : w1.heap.size < w2.heap.size := (by omega)
  have HB2 : Hid (Below w.heap.size w w2) := Lib.hid (Below.trans (by first | exact HB1.out | exact HB1.out.alloc HB1.out.size _ | exact (HB1.out.alloc HB1.out.size _).alloc (le_al HB1.out.size) _ | exact ((HB1.out.alloc HB1.out.size _).alloc (le_al HB1.out.size) _).alloc (le_al (le_al HB1.out.size)) _ | exact HB1.out.drew | exact (HB1.out.alloc HB1.out.size _).drew | exact ((HB1.out.alloc HB1.out.size _).alloc (le_al HB1.out.size) _).drew | exact HB0.out | exact HB0.out.alloc HB0.out.size _ | exact (HB0.out.alloc HB0.out.size _).alloc (le_al HB0.out.size) _ | exact ((HB0.out.alloc HB0.out.size _).alloc (le_al HB0.out.size) _).alloc (le_al (le_al HB0.out.size)) _ | exact HB0.out.drew | exact (HB0.out.alloc HB0.out.size _).drew | exact ((HB0.out.alloc HB0.out.size _).alloc (le_al HB0.out.size) _).drew) (hb2.mono (by (try simp only [size_drew]); (try simp only [World.size_alloc]); (try simp only [size_setCell']); omega)))
  have HN2 := Lib.hid hb2
  clear hb2 hs2
  have HG2 := Lib.hid hG2
  have HMM : Hid (w.heap.size ≤ mI ∧ w.heap.size ≤ mE) := Lib.hid ⟨Nat.le_trans HB1.out.size q2, Nat.le_trans HB1.out.size q3⟩
  clear hG2 q1 q2 q3
  go_wp2
  go_loopg [9] 100 (fun gg s9 wr => ∃ i : Nat, s9 = .int .i64 i ∧ i ≤ 100 ∧ 100 - i ≤ gg ∧ Aside (∃ G : Gr, G.Ok ∧ GrAt wr gb mI mE G) ∧ Aside (Below w.heap.size w wr))
  case atStart => exact ⟨0, rfl, Nat.zero_le _, by omega, (show Aside _ from ⟨Gr.new, Gr.Ok.new, HG2.out⟩), (show Aside _ from HB2.out)⟩
  case round =>
    obtain ⟨i, rfl, hil, hgg, hG, hB⟩ := hrel
    have hi0 : (0 : Int) ≤ (i : Int) := by omega
    have hwi : IntKind.i64.wrap ((i : Int) + 1) = (i : Int) + 1 := wrapNat (i + 1) (by omega)
    by_cases hlt : i < 100
    · have d1 : decide (i < ids.length) = true := decide_eq_true (by omega)
      have c1 : (i : Int) < (ids.length : Int) := by omega
      have d2 : decide (i < kinds.length) = true := decide_eq_true (by omega)
      have c2 : (i : Int) < (kinds.length : Int) := by omega
      have d3 : decide (i < 100) = true := decide_eq_true (by omega)
      have c3 : (i : Int) < 100 := by omega
      obtain ⟨b1, o1, rfl, hb1, hc1⟩ := slAt_at (HS1.out wr hB.out) (show i < ids.length by omega)
      obtain ⟨b2, o2, rfl, hb2, hc2⟩ := slAt_at (HS2.out wr hB.out) (show i < kinds.length by omega)
      have x0 := hc1 i (by omega) 0 _ rfl
      have x1 := hc1 i (by omega) 1 _ rfl
      have y0 := hc2 i (by omega) 0 _ rfl
      rw [Nat.add_zero] at x0 y0
      rw [Nat.mul_one] at y0
      obtain ⟨G, hok, hGA⟩ := hG.out
      have HOK := Lib.hid (hok.makeD ids[i]! kinds[i]!)
      have HMK : Hid (∀ W : World, W.heap = wr.heap → Calls Tryz.prog 19 #[.pointer (some ⟨gb, 0, none⟩), (.agg #[.int .i64 ids[i]!.t, .int .i64 ids[i]!.r]), .int .i64 kinds[i]!] W (Done gb mI mE (G.make ids[i]! kinds[i]!) (.int .i64 (G.makeWhy ids[i]! kinds[i]!)) W)) := Lib.hid fun W hW => make_g gb mI mE G ids[i]! kinds[i]! W (hGA.kept (by rw [hW]) (by rw [hW]) (by rw [hW])) hok
      have HK : Hid (∀ W, Turn (Maps2 mI mE) wr W → W.cell? ⟨b1, o1 + i * 2, none⟩ = some (.int .i64 ids[i]!.t) ∧ W.cell? ⟨b1, o1 + i * 2 + 1, none⟩ = some (.int .i64 ids[i]!.r) ∧ W.cell? ⟨b2, o2 + i, none⟩ = some (.int .i64 kinds[i]!)) := Lib.hid fun W hW => ⟨(hW.cell ⟨b1, _, none⟩ hb1).trans x0, (hW.cell ⟨b1, _, none⟩ hb1).trans x1, (hW.cell ⟨b2, _, none⟩ hb2).trans y0⟩
      clear hc1 hc2 hok hGA
      generalize ids[i]! = id at *
      generalize kinds[i]! = kd at *
      go_wp2_with fail
      go_region_held3 (fun W : World => W.cell? ⟨b1, o1 + i * 2, none⟩ = some (.int .i64 id.t) ∧ W.cell? ⟨b1, o1 + i * 2 + 1, none⟩ = some (.int .i64 id.r) ∧ W.cell? ⟨b2, o2 + i, none⟩ = some (.int .i64 kd)) (first | go_keep | exact HK.out _ HT5.out) (first
        | (go_at_call 19; refine (HMK.out wr.drew rfl).mono ?_; rintro e w5 ⟨rfl, hG5, hT5⟩; have HG5 := Lib.hid hG5; have HT5 := Lib.hid (Turn.trans (turn_drew _ wr) hT5); clear hG5 hT5))
      go_wp2
      go_roundg (100 - (i + 1))
      case measure => omega
      case rel => exact ⟨i + 1, by first | rfl | go_num, by omega, by omega, (show Aside _ from ⟨_, HOK.out, HG5.out⟩), (show Aside _ from hB.out.trans (own_below HT5.out HMM.out.1 HMM.out.2 hB.out.size))⟩
    · have d1 : decide (i < ids.length) = true := decide_eq_true (by omega)
      have c1 : (i : Int) < (ids.length : Int) := by omega
      have d2 : decide (i < kinds.length) = true := decide_eq_true (by omega)
      have c2 : (i : Int) < (kinds.length : Int) := by omega
      have d3 : decide (i < 100) = false := decide_eq_false (by omega)
      have c3 : ¬ (i : Int) < 100 := by omega
      have HGX := Lib.hid hG.out
      have HBX := Lib.hid hB.out
      obtain ⟨wo, hwo⟩ : ∃ wo, wo = wr := ⟨_, rfl⟩
      subst hwo
      clear hG hB hlt
      go_wp2
      go_loopg [10] es.length (fun gg s10 wr => ∃ j : Nat, s10 = .int .i64 j ∧ j ≤ es.length ∧ es.length - j ≤ gg ∧ Aside (∃ G : Gr, G.Ok ∧ GrAt wr gb mI mE G) ∧ Aside (Below w.heap.size w wr))
      case atStart => exact ⟨0, rfl, Nat.zero_le _, by omega, (show Aside _ from HGX.out), (show Aside _ from HBX.out)⟩
      case round =>
        obtain ⟨j, rfl, hjl, hgj, hG, hB⟩ := hrel
        have hj0 : (0 : Int) ≤ (j : Int) := by omega
        have hwj : IntKind.i64.wrap ((j : Int) + 1) = (j : Int) + 1 := wrapNat (j + 1) (by omega)
        by_cases hlj : j < es.length
        · have d1 : decide (j < es.length) = true := decide_eq_true (by omega)
          have c1 : (j : Int) < (es.length : Int) := by omega
          have d3 : decide (j < 100) = true := decide_eq_true (by omega)
          have c3 : (j : Int) < 100 := by omega
          obtain ⟨b1, o1, rfl, hb1, hc1⟩ := slAt_at (HS3.out wr hB.out) (show j < es.length by omega)
          have x0 := hc1 j (by omega) 0 _ rfl
          have x1 := hc1 j (by omega) 1 _ rfl
          have x2 := hc1 j (by omega) 2 _ rfl
          have x3 := hc1 j (by omega) 3 _ rfl
          have x4 := hc1 j (by omega) 4 _ rfl
          rw [Nat.add_zero] at x0
          obtain ⟨G, hok, hGA⟩ := hG.out
          have HOK := Lib.hid (hok.tieD es[j]!)
          have htie := tie_g gb mI mE G es[j]! wr hGA hok (by have := hok.few; omega) (HN.out _ (getElem!_mem (show j < es.length by omega)))
          clear hc1 hok hGA
          unfold Ent.v at htie
          generalize es[j]! = x at x0 x1 x2 x3 x4 HOK htie
          have HTI := Lib.hid htie
          clear htie
          go_wp2_with (go_at_call 20; refine HTI.out.mono ?_; rintro e w5 ⟨rfl, hG5, hT5⟩; have HG5 := Lib.hid hG5; have HT5 := Lib.hid hT5; clear hG5 hT5)
          go_roundg (es.length - (j + 1))
          case measure => omega
          case rel => exact ⟨j + 1, by first | rfl | go_num, by omega, by omega, (show Aside _ from ⟨_, HOK.out, HG5.out⟩), (show Aside _ from hB.out.trans (own_below HT5.out HMM.out.1 HMM.out.2 hB.out.size))⟩
        · have d1 : decide (j < es.length) = false := decide_eq_false (by omega)
          have c1 : ¬ (j : Int) < (es.length : Int) := by omega
          obtain ⟨G, hok, hGA⟩ := hG.out
          have HGA := Lib.hid (hGA.reads hok (by have := hok.few; omega))
          have HOK := Lib.hid hok
          have HBW := Lib.hid hB.out
          have HBr0 : Hid (Below wr.heap.size wr wr) := Lib.hid (Below.refl _ _)
          have HFF : Hid ((faults G.n G.e).length ≤ 7 ∧ ∀ z ∈ faults G.n G.e, 5 ≤ z) := Lib.hid ⟨faults_few _ _, faults_high hok⟩
          have HNM : Hid (∀ x ∈ G.e, x.name.size ≤ maxLen) := Lib.hid fun x hx => name_small10 (hok.names x hx)
          clear hG hB hlj hok hGA
          go_wp2_with fail
          refine (HGA.out.inodes _ (by first | exact HBr0.out | exact HBr0.out.alloc HBr0.out.size _ | exact (HBr0.out.alloc HBr0.out.size _).alloc (le_al HBr0.out.size) _ | exact ((HBr0.out.alloc HBr0.out.size _).alloc (le_al HBr0.out.size) _).alloc (le_al (le_al HBr0.out.size)) _ | exact HBr0.out.drew | exact (HBr0.out.alloc HBr0.out.size _).drew | exact ((HBr0.out.alloc HBr0.out.size _).alloc (le_al HBr0.out.size) _).drew)).mono ?_
          rintro e r1 ⟨ia, ic, rfl, hs1, hbr1⟩
          obtain ⟨hcr1, hfr1⟩ := bcell hbr1
          have hsr1 := hbr1.size
          try simp only [size_drew] at hsr1
          try simp only [World.size_alloc] at hsr1
          try simp only [size_setCell'] at hsr1
          try have ler1_0 : wr.heap.size ≤ r1.heap.size := (by omega)
          try have ltr1_0 : wr.heap.size < r1.heap.size := (by omega)
          have HBr1 : Hid (Below wr.heap.size wr r1) := Lib.hid (Below.trans (by first | exact HBr0.out | exact HBr0.out.alloc HBr0.out.size _ | exact (HBr0.out.alloc HBr0.out.size _).alloc (le_al HBr0.out.size) _ | exact ((HBr0.out.alloc HBr0.out.size _).alloc (le_al HBr0.out.size) _).alloc (le_al (le_al HBr0.out.size)) _ | exact HBr0.out.drew | exact (HBr0.out.alloc HBr0.out.size _).drew | exact ((HBr0.out.alloc HBr0.out.size _).alloc (le_al HBr0.out.size) _).drew) (hbr1.mono (by (try simp only [size_drew]); (try simp only [World.size_alloc]); (try simp only [size_setCell']); omega)))
          have HNr1 := Lib.hid hbr1
          clear hbr1 hsr1
          have HI1 := Lib.hid hs1
          clear hs1
          go_wp2_with fail
          refine (HGA.out.entries _ (by first | exact HBr1.out | exact HBr1.out.alloc HBr1.out.size _ | exact (HBr1.out.alloc HBr1.out.size _).alloc (le_al HBr1.out.size) _ | exact ((HBr1.out.alloc HBr1.out.size _).alloc (le_al HBr1.out.size) _).alloc (le_al (le_al HBr1.out.size)) _ | exact HBr1.out.drew | exact (HBr1.out.alloc HBr1.out.size _).drew | exact ((HBr1.out.alloc HBr1.out.size _).alloc (le_al HBr1.out.size) _).drew | exact HBr0.out | exact HBr0.out.alloc HBr0.out.size _ | exact (HBr0.out.alloc HBr0.out.size _).alloc (le_al HBr0.out.size) _ | exact ((HBr0.out.alloc HBr0.out.size _).alloc (le_al HBr0.out.size) _).alloc (le_al (le_al HBr0.out.size)) _ | exact HBr0.out.drew | exact (HBr0.out.alloc HBr0.out.size _).drew | exact ((HBr0.out.alloc HBr0.out.size _).alloc (le_al HBr0.out.size) _).drew)).mono ?_
          rintro e r2 ⟨ea, ec, rfl, hs2, hbr2⟩
          obtain ⟨hcr2, hfr2⟩ := bcell hbr2
          have hsr2 := hbr2.size
          try simp only [size_drew] at hsr2
          try simp only [World.size_alloc] at hsr2
          try simp only [size_setCell'] at hsr2
          try have ler2_0 : wr.heap.size ≤ r2.heap.size := (by omega)
          try have ltr2_0 : wr.heap.size < r2.heap.size := (by omega)
          try have ler2_1 : r1.heap.size ≤ r2.heap.size := (by omega)
          try have ltr2_1 : r1.heap.size < r2.heap.size := (by omega)
          have HBr2 : Hid (Below wr.heap.size wr r2) := Lib.hid (Below.trans (by first | exact HBr1.out | exact HBr1.out.alloc HBr1.out.size _ | exact (HBr1.out.alloc HBr1.out.size _).alloc (le_al HBr1.out.size) _ | exact ((HBr1.out.alloc HBr1.out.size _).alloc (le_al HBr1.out.size) _).alloc (le_al (le_al HBr1.out.size)) _ | exact HBr1.out.drew | exact (HBr1.out.alloc HBr1.out.size _).drew | exact ((HBr1.out.alloc HBr1.out.size _).alloc (le_al HBr1.out.size) _).drew | exact HBr0.out | exact HBr0.out.alloc HBr0.out.size _ | exact (HBr0.out.alloc HBr0.out.size _).alloc (le_al HBr0.out.size) _ | exact ((HBr0.out.alloc HBr0.out.size _).alloc (le_al HBr0.out.size) _).alloc (le_al (le_al HBr0.out.size)) _ | exact HBr0.out.drew | exact (HBr0.out.alloc HBr0.out.size _).drew | exact ((HBr0.out.alloc HBr0.out.size _).alloc (le_al HBr0.out.size) _).drew) (hbr2.mono (by (try simp only [size_drew]); (try simp only [World.size_alloc]); (try simp only [size_setCell']); omega)))
          have HNr2 := Lib.hid hbr2
          clear hbr2 hsr2
          have HCK := Lib.hid (check_any _ _ G.n G.e r2 (HI1.out.below HNr2.out) hs2 (by have := HOK.out.len; omega) (by have := HOK.out.few; omega) HNM.out)
          clear hs2
          go_wp2_with fail
          refine (HCK.out).mono ?_
          rintro e r3 ⟨cv, rfl, hrow, hbr3⟩
          obtain ⟨hcr3, hfr3⟩ := bcell hbr3
          have hsr3 := hbr3.size
          try simp only [size_drew] at hsr3
          try simp only [World.size_alloc] at hsr3
          try simp only [size_setCell'] at hsr3
          try have ler3_0 : wr.heap.size ≤ r3.heap.size := (by omega)
          try have ltr3_0 : wr.heap.size < r3.heap.size := (by omega)
          try have ler3_1 : r1.heap.size ≤ r3.heap.size := (by omega)
          try have ltr3_1 : r1.heap.size < r3.heap.size := (by omega)
          try have ler3_2 : r2.heap.size ≤ r3.heap.size := (by omega)
          try have ltr3_2 : r2.heap.size < r3.heap.size := (by omega)
          have HBr3 : Hid (Below wr.heap.size wr r3) := Lib.hid (Below.trans (by first | exact HBr2.out | exact HBr2.out.alloc HBr2.out.size _ | exact (HBr2.out.alloc HBr2.out.size _).alloc (le_al HBr2.out.size) _ | exact ((HBr2.out.alloc HBr2.out.size _).alloc (le_al HBr2.out.size) _).alloc (le_al (le_al HBr2.out.size)) _ | exact HBr2.out.drew | exact (HBr2.out.alloc HBr2.out.size _).drew | exact ((HBr2.out.alloc HBr2.out.size _).alloc (le_al HBr2.out.size) _).drew | exact HBr1.out | exact HBr1.out.alloc HBr1.out.size _ | exact (HBr1.out.alloc HBr1.out.size _).alloc (le_al HBr1.out.size) _ | exact ((HBr1.out.alloc HBr1.out.size _).alloc (le_al HBr1.out.size) _).alloc (le_al (le_al HBr1.out.size)) _ | exact HBr1.out.drew | exact (HBr1.out.alloc HBr1.out.size _).drew | exact ((HBr1.out.alloc HBr1.out.size _).alloc (le_al HBr1.out.size) _).drew | exact HBr0.out | exact HBr0.out.alloc HBr0.out.size _ | exact (HBr0.out.alloc HBr0.out.size _).alloc (le_al HBr0.out.size) _ | exact ((HBr0.out.alloc HBr0.out.size _).alloc (le_al HBr0.out.size) _).alloc (le_al (le_al HBr0.out.size)) _ | exact HBr0.out.drew | exact (HBr0.out.alloc HBr0.out.size _).drew | exact ((HBr0.out.alloc HBr0.out.size _).alloc (le_al HBr0.out.size) _).drew) (hbr3.mono (by (try simp only [size_drew]); (try simp only [World.size_alloc]); (try simp only [size_setCell']); omega)))
          have HNr3 := Lib.hid hbr3
          clear hbr3 hsr3
          rw [← i64_map] at hrow
          have hsl : SlAt r3 1 I64.cells cv (faults G.n G.e) := SlAt.of_row (fun _ => rfl) hrow
          have HFL := Lib.hid hsl
          obtain ⟨fa, fc, rfl⟩ := hsl.len
          clear hrow hsl
          generalize faults G.n G.e = F at *
          obtain ⟨wo2, hwo2⟩ : ∃ wo2, wo2 = wr := ⟨_, rfl⟩
          subst hwo2
          go_wp2
          go_loopg [12] F.length (fun gg s12 wr => ∃ k : Nat, s12 = .int .i64 k ∧ k ≤ F.length ∧ F.length - k ≤ gg ∧ Aside (Below r3.heap.size r3 wr))
          case atStart => exact ⟨0, rfl, Nat.zero_le _, by omega, (show Aside _ from Below.refl _ _)⟩
          case round =>
            obtain ⟨k, rfl, hkl, hgk, hB⟩ := hrel
            have hk0 : (0 : Int) ≤ (k : Int) := by omega
            have hwk : IntKind.i64.wrap ((k : Int) + 1) = (k : Int) + 1 := wrapNat (k + 1) (by have := HFF.out.1; omega)
            by_cases hlk : k < F.length
            · have c1 : (k : Int) < (F.length : Int) := by omega
              obtain ⟨fb, fo, rfl, _, hfc⟩ := slAt_at (HFL.out.below hB.out) hlk
              have x0 := hfc k hlk 0 _ rfl
              rw [Nat.add_zero, Nat.mul_one] at x0
              have h5 : decide (F[k]! < 5) = false := by rw [decide_eq_false_iff_not]; have := HFF.out.2 _ (getElem!_mem hlk); omega
              clear hfc
              generalize F[k]! = z at *
              go_wp2
              go_roundg (F.length - (k + 1))
              case measure => omega
              case rel => exact ⟨k + 1, by first | rfl | go_num, by omega, by omega, (show Aside _ from hB.out)⟩
            · have c1 : ¬ (k : Int) < (F.length : Int) := by omega
              clear hlk
              go_wp2
              go_ret
              exact ⟨rfl, HBW.out.trans ((HBr3.out.trans (hB.out.mono HBr3.out.size)).mono HBW.out.size)⟩

set_option maxRecDepth 100000 in
set_option maxHeartbeats 8000000 in
theorem graph_top_top (v1 : Value) (ids : List St) (v2 : Value) (kinds : List Int) (v3 : Value) (es : List Ent) (w : World) (hs1 : SlAt w 2 St.cells v1 ids) (_hn1 : ∀ z ∈ ids, True) (hs2 : SlAt w 1 I64.cells v2 kinds) (_hn2 : ∀ z ∈ kinds, True) (hs3 : SlAt w 5 Ent.cells v3 es) (hn3 : ∀ z ∈ es, z.name.size ≤ maxLen) (hA : 100 < ids.length) (hA2 : 100 < kinds.length) (hB : 100 < es.length) :
    Calls Tryz.prog 3 #[v1, v2, v3] w fun y w' => y = .returned (.bool true) ∧ Below w.heap.size w w' := by
  have HS1 : Hid (∀ W, Below w.heap.size w W → SlAt W 2 St.cells v1 ids) := Lib.hid fun W hW => hs1.below hW
  have HS2 : Hid (∀ W, Below w.heap.size w W → SlAt W 1 I64.cells v2 kinds) := Lib.hid fun W hW => hs2.below hW
  have HS3 : Hid (∀ W, Below w.heap.size w W → SlAt W 5 Ent.cells v3 es) := Lib.hid fun W hW => hs3.below hW
  have HN := Lib.hid hn3
  have HB0 : Hid (Below w.heap.size w w) := Lib.hid (Below.refl _ _)
  obtain ⟨a1, c1_, rfl⟩ := hs1.len
  obtain ⟨a2, c2_, rfl⟩ := hs2.len
  obtain ⟨a3, c3_, rfl⟩ := hs3.len
  clear hs1 hs2 hs3 hn3 _hn1 _hn2
  go_enter Tryz.func3, Tryz.ntmps3
  go_wp2_with fail
  refine (shown_any _).mono ?_
  rintro e w1 ⟨rfl, hb1⟩
  obtain ⟨hc1, hf1⟩ := bcell hb1
  have hs1 := hb1.size
  try simp only [size_drew] at hs1
  try simp only [World.size_alloc] at hs1
  try simp only [size_setCell'] at hs1
  try have le1_0 : w.heap.size ≤ w1.heap.size := (by omega)
  try have lt1_0 : w.heap.size < w1.heap.size := (by omega)
  have HB1 : Hid (Below w.heap.size w w1) := Lib.hid (Below.trans (by first | exact HB0.out | exact HB0.out.alloc HB0.out.size _ | exact (HB0.out.alloc HB0.out.size _).alloc (le_al HB0.out.size) _ | exact ((HB0.out.alloc HB0.out.size _).alloc (le_al HB0.out.size) _).alloc (le_al (le_al HB0.out.size)) _ | exact HB0.out.drew | exact (HB0.out.alloc HB0.out.size _).drew | exact ((HB0.out.alloc HB0.out.size _).alloc (le_al HB0.out.size) _).drew) (hb1.mono (by (try simp only [size_drew]); (try simp only [World.size_alloc]); (try simp only [size_setCell']); omega)))
  have HN1 := Lib.hid hb1
  clear hb1 hs1
  go_wp2_with fail
  refine (new_g _).mono ?_
  rintro e w2 ⟨v2', rfl, ⟨gb, mI, mE, rfl, hG2, q1, q2, q3⟩, hb2⟩
  obtain ⟨hc2, hf2⟩ := bcell hb2
  have hs2 := hb2.size
  try simp only [size_drew] at hs2
  try simp only [World.size_alloc] at hs2
  try simp only [size_setCell'] at hs2
  try have le2_0 : w.heap.size ≤ w2.heap.size := (by omega)
  try have lt2_0 : w.heap.size < w2.heap.size := (by omega)
  try have le2_1 : w1.heap.size ≤ w2.heap.size := (by omega)
  try have lt2_1 : w1.heap.size < w2.heap.size := (by omega)
  have HB2 : Hid (Below w.heap.size w w2) := Lib.hid (Below.trans (by first | exact HB1.out | exact HB1.out.alloc HB1.out.size _ | exact (HB1.out.alloc HB1.out.size _).alloc (le_al HB1.out.size) _ | exact ((HB1.out.alloc HB1.out.size _).alloc (le_al HB1.out.size) _).alloc (le_al (le_al HB1.out.size)) _ | exact HB1.out.drew | exact (HB1.out.alloc HB1.out.size _).drew | exact ((HB1.out.alloc HB1.out.size _).alloc (le_al HB1.out.size) _).drew | exact HB0.out | exact HB0.out.alloc HB0.out.size _ | exact (HB0.out.alloc HB0.out.size _).alloc (le_al HB0.out.size) _ | exact ((HB0.out.alloc HB0.out.size _).alloc (le_al HB0.out.size) _).alloc (le_al (le_al HB0.out.size)) _ | exact HB0.out.drew | exact (HB0.out.alloc HB0.out.size _).drew | exact ((HB0.out.alloc HB0.out.size _).alloc (le_al HB0.out.size) _).drew) (hb2.mono (by (try simp only [size_drew]); (try simp only [World.size_alloc]); (try simp only [size_setCell']); omega)))
  have HN2 := Lib.hid hb2
  clear hb2 hs2
  have HG2 := Lib.hid hG2
  have HMM : Hid (w.heap.size ≤ mI ∧ w.heap.size ≤ mE) := Lib.hid ⟨Nat.le_trans HB1.out.size q2, Nat.le_trans HB1.out.size q3⟩
  clear hG2 q1 q2 q3
  go_wp2
  go_loopg [9] 100 (fun gg s9 wr => ∃ i : Nat, s9 = .int .i64 i ∧ i ≤ 100 ∧ 100 - i ≤ gg ∧ Aside (∃ G : Gr, G.Ok ∧ GrAt wr gb mI mE G) ∧ Aside (Below w.heap.size w wr))
  case atStart => exact ⟨0, rfl, Nat.zero_le _, by omega, (show Aside _ from ⟨Gr.new, Gr.Ok.new, HG2.out⟩), (show Aside _ from HB2.out)⟩
  case round =>
    obtain ⟨i, rfl, hil, hgg, hG, hB⟩ := hrel
    have hi0 : (0 : Int) ≤ (i : Int) := by omega
    have hwi : IntKind.i64.wrap ((i : Int) + 1) = (i : Int) + 1 := wrapNat (i + 1) (by omega)
    by_cases hlt : i < 100
    · have d1 : decide (i < ids.length) = true := decide_eq_true (by omega)
      have c1 : (i : Int) < (ids.length : Int) := by omega
      have d2 : decide (i < kinds.length) = true := decide_eq_true (by omega)
      have c2 : (i : Int) < (kinds.length : Int) := by omega
      have d3 : decide (i < 100) = true := decide_eq_true (by omega)
      have c3 : (i : Int) < 100 := by omega
      obtain ⟨b1, o1, rfl, hb1, hc1⟩ := slAt_at (HS1.out wr hB.out) (show i < ids.length by omega)
      obtain ⟨b2, o2, rfl, hb2, hc2⟩ := slAt_at (HS2.out wr hB.out) (show i < kinds.length by omega)
      have x0 := hc1 i (by omega) 0 _ rfl
      have x1 := hc1 i (by omega) 1 _ rfl
      have y0 := hc2 i (by omega) 0 _ rfl
      rw [Nat.add_zero] at x0 y0
      rw [Nat.mul_one] at y0
      obtain ⟨G, hok, hGA⟩ := hG.out
      have HOK := Lib.hid (hok.makeD ids[i]! kinds[i]!)
      have HMK : Hid (∀ W : World, W.heap = wr.heap → Calls Tryz.prog 19 #[.pointer (some ⟨gb, 0, none⟩), (.agg #[.int .i64 ids[i]!.t, .int .i64 ids[i]!.r]), .int .i64 kinds[i]!] W (Done gb mI mE (G.make ids[i]! kinds[i]!) (.int .i64 (G.makeWhy ids[i]! kinds[i]!)) W)) := Lib.hid fun W hW => make_g gb mI mE G ids[i]! kinds[i]! W (hGA.kept (by rw [hW]) (by rw [hW]) (by rw [hW])) hok
      have HK : Hid (∀ W, Turn (Maps2 mI mE) wr W → W.cell? ⟨b1, o1 + i * 2, none⟩ = some (.int .i64 ids[i]!.t) ∧ W.cell? ⟨b1, o1 + i * 2 + 1, none⟩ = some (.int .i64 ids[i]!.r) ∧ W.cell? ⟨b2, o2 + i, none⟩ = some (.int .i64 kinds[i]!)) := Lib.hid fun W hW => ⟨(hW.cell ⟨b1, _, none⟩ hb1).trans x0, (hW.cell ⟨b1, _, none⟩ hb1).trans x1, (hW.cell ⟨b2, _, none⟩ hb2).trans y0⟩
      clear hc1 hc2 hok hGA
      generalize ids[i]! = id at *
      generalize kinds[i]! = kd at *
      go_wp2_with fail
      go_region_held3 (fun W : World => W.cell? ⟨b1, o1 + i * 2, none⟩ = some (.int .i64 id.t) ∧ W.cell? ⟨b1, o1 + i * 2 + 1, none⟩ = some (.int .i64 id.r) ∧ W.cell? ⟨b2, o2 + i, none⟩ = some (.int .i64 kd)) (first | go_keep | exact HK.out _ HT5.out) (first
        | (go_at_call 19; refine (HMK.out wr.drew rfl).mono ?_; rintro e w5 ⟨rfl, hG5, hT5⟩; have HG5 := Lib.hid hG5; have HT5 := Lib.hid (Turn.trans (turn_drew _ wr) hT5); clear hG5 hT5))
      go_wp2
      go_roundg (100 - (i + 1))
      case measure => omega
      case rel => exact ⟨i + 1, by first | rfl | go_num, by omega, by omega, (show Aside _ from ⟨_, HOK.out, HG5.out⟩), (show Aside _ from hB.out.trans (own_below HT5.out HMM.out.1 HMM.out.2 hB.out.size))⟩
    · have d1 : decide (i < ids.length) = true := decide_eq_true (by omega)
      have c1 : (i : Int) < (ids.length : Int) := by omega
      have d2 : decide (i < kinds.length) = true := decide_eq_true (by omega)
      have c2 : (i : Int) < (kinds.length : Int) := by omega
      have d3 : decide (i < 100) = false := decide_eq_false (by omega)
      have c3 : ¬ (i : Int) < 100 := by omega
      have HGX := Lib.hid hG.out
      have HBX := Lib.hid hB.out
      obtain ⟨wo, hwo⟩ : ∃ wo, wo = wr := ⟨_, rfl⟩
      subst hwo
      clear hG hB hlt
      go_wp2
      go_loopg [10] 100 (fun gg s10 wr => ∃ j : Nat, s10 = .int .i64 j ∧ j ≤ 100 ∧ 100 - j ≤ gg ∧ Aside (∃ G : Gr, G.Ok ∧ GrAt wr gb mI mE G) ∧ Aside (Below w.heap.size w wr))
      case atStart => exact ⟨0, rfl, Nat.zero_le _, by omega, (show Aside _ from HGX.out), (show Aside _ from HBX.out)⟩
      case round =>
        obtain ⟨j, rfl, hjl, hgj, hG, hB⟩ := hrel
        have hj0 : (0 : Int) ≤ (j : Int) := by omega
        have hwj : IntKind.i64.wrap ((j : Int) + 1) = (j : Int) + 1 := wrapNat (j + 1) (by omega)
        by_cases hlj : j < 100
        · have d1 : decide (j < es.length) = true := decide_eq_true (by omega)
          have c1 : (j : Int) < (es.length : Int) := by omega
          have d3 : decide (j < 100) = true := decide_eq_true (by omega)
          have c3 : (j : Int) < 100 := by omega
          obtain ⟨b1, o1, rfl, hb1, hc1⟩ := slAt_at (HS3.out wr hB.out) (show j < es.length by omega)
          have x0 := hc1 j (by omega) 0 _ rfl
          have x1 := hc1 j (by omega) 1 _ rfl
          have x2 := hc1 j (by omega) 2 _ rfl
          have x3 := hc1 j (by omega) 3 _ rfl
          have x4 := hc1 j (by omega) 4 _ rfl
          rw [Nat.add_zero] at x0
          obtain ⟨G, hok, hGA⟩ := hG.out
          have HOK := Lib.hid (hok.tieD es[j]!)
          have htie := tie_g gb mI mE G es[j]! wr hGA hok (by have := hok.few; omega) (HN.out _ (getElem!_mem (show j < es.length by omega)))
          clear hc1 hok hGA
          unfold Ent.v at htie
          generalize es[j]! = x at x0 x1 x2 x3 x4 HOK htie
          have HTI := Lib.hid htie
          clear htie
          go_wp2_with (go_at_call 20; refine HTI.out.mono ?_; rintro e w5 ⟨rfl, hG5, hT5⟩; have HG5 := Lib.hid hG5; have HT5 := Lib.hid hT5; clear hG5 hT5)
          go_roundg (100 - (j + 1))
          case measure => omega
          case rel => exact ⟨j + 1, by first | rfl | go_num, by omega, by omega, (show Aside _ from ⟨_, HOK.out, HG5.out⟩), (show Aside _ from hB.out.trans (own_below HT5.out HMM.out.1 HMM.out.2 hB.out.size))⟩
        · have d1 : decide (j < es.length) = true := decide_eq_true (by omega)
          have c1 : (j : Int) < (es.length : Int) := by omega
          have d3 : decide (j < 100) = false := decide_eq_false (by omega)
          have c3 : ¬ (j : Int) < 100 := by omega
          obtain ⟨G, hok, hGA⟩ := hG.out
          have HGA := Lib.hid (hGA.reads hok (by have := hok.few; omega))
          have HOK := Lib.hid hok
          have HBW := Lib.hid hB.out
          have HBr0 : Hid (Below wr.heap.size wr wr) := Lib.hid (Below.refl _ _)
          have HFF : Hid ((faults G.n G.e).length ≤ 7 ∧ ∀ z ∈ faults G.n G.e, 5 ≤ z) := Lib.hid ⟨faults_few _ _, faults_high hok⟩
          have HNM : Hid (∀ x ∈ G.e, x.name.size ≤ maxLen) := Lib.hid fun x hx => name_small10 (hok.names x hx)
          clear hG hB hlj hok hGA
          go_wp2_with fail
          refine (HGA.out.inodes _ (by first | exact HBr0.out | exact HBr0.out.alloc HBr0.out.size _ | exact (HBr0.out.alloc HBr0.out.size _).alloc (le_al HBr0.out.size) _ | exact ((HBr0.out.alloc HBr0.out.size _).alloc (le_al HBr0.out.size) _).alloc (le_al (le_al HBr0.out.size)) _ | exact HBr0.out.drew | exact (HBr0.out.alloc HBr0.out.size _).drew | exact ((HBr0.out.alloc HBr0.out.size _).alloc (le_al HBr0.out.size) _).drew)).mono ?_
          rintro e r1 ⟨ia, ic, rfl, hs1, hbr1⟩
          obtain ⟨hcr1, hfr1⟩ := bcell hbr1
          have hsr1 := hbr1.size
          try simp only [size_drew] at hsr1
          try simp only [World.size_alloc] at hsr1
          try simp only [size_setCell'] at hsr1
          try have ler1_0 : wr.heap.size ≤ r1.heap.size := (by omega)
          try have ltr1_0 : wr.heap.size < r1.heap.size := (by omega)
          have HBr1 : Hid (Below wr.heap.size wr r1) := Lib.hid (Below.trans (by first | exact HBr0.out | exact HBr0.out.alloc HBr0.out.size _ | exact (HBr0.out.alloc HBr0.out.size _).alloc (le_al HBr0.out.size) _ | exact ((HBr0.out.alloc HBr0.out.size _).alloc (le_al HBr0.out.size) _).alloc (le_al (le_al HBr0.out.size)) _ | exact HBr0.out.drew | exact (HBr0.out.alloc HBr0.out.size _).drew | exact ((HBr0.out.alloc HBr0.out.size _).alloc (le_al HBr0.out.size) _).drew) (hbr1.mono (by (try simp only [size_drew]); (try simp only [World.size_alloc]); (try simp only [size_setCell']); omega)))
          have HNr1 := Lib.hid hbr1
          clear hbr1 hsr1
          have HI1 := Lib.hid hs1
          clear hs1
          go_wp2_with fail
          refine (HGA.out.entries _ (by first | exact HBr1.out | exact HBr1.out.alloc HBr1.out.size _ | exact (HBr1.out.alloc HBr1.out.size _).alloc (le_al HBr1.out.size) _ | exact ((HBr1.out.alloc HBr1.out.size _).alloc (le_al HBr1.out.size) _).alloc (le_al (le_al HBr1.out.size)) _ | exact HBr1.out.drew | exact (HBr1.out.alloc HBr1.out.size _).drew | exact ((HBr1.out.alloc HBr1.out.size _).alloc (le_al HBr1.out.size) _).drew | exact HBr0.out | exact HBr0.out.alloc HBr0.out.size _ | exact (HBr0.out.alloc HBr0.out.size _).alloc (le_al HBr0.out.size) _ | exact ((HBr0.out.alloc HBr0.out.size _).alloc (le_al HBr0.out.size) _).alloc (le_al (le_al HBr0.out.size)) _ | exact HBr0.out.drew | exact (HBr0.out.alloc HBr0.out.size _).drew | exact ((HBr0.out.alloc HBr0.out.size _).alloc (le_al HBr0.out.size) _).drew)).mono ?_
          rintro e r2 ⟨ea, ec, rfl, hs2, hbr2⟩
          obtain ⟨hcr2, hfr2⟩ := bcell hbr2
          have hsr2 := hbr2.size
          try simp only [size_drew] at hsr2
          try simp only [World.size_alloc] at hsr2
          try simp only [size_setCell'] at hsr2
          try have ler2_0 : wr.heap.size ≤ r2.heap.size := (by omega)
          try have ltr2_0 : wr.heap.size < r2.heap.size := (by omega)
          try have ler2_1 : r1.heap.size ≤ r2.heap.size := (by omega)
          try have ltr2_1 : r1.heap.size < r2.heap.size := (by omega)
          have HBr2 : Hid (Below wr.heap.size wr r2) := Lib.hid (Below.trans (by first | exact HBr1.out | exact HBr1.out.alloc HBr1.out.size _ | exact (HBr1.out.alloc HBr1.out.size _).alloc (le_al HBr1.out.size) _ | exact ((HBr1.out.alloc HBr1.out.size _).alloc (le_al HBr1.out.size) _).alloc (le_al (le_al HBr1.out.size)) _ | exact HBr1.out.drew | exact (HBr1.out.alloc HBr1.out.size _).drew | exact ((HBr1.out.alloc HBr1.out.size _).alloc (le_al HBr1.out.size) _).drew | exact HBr0.out | exact HBr0.out.alloc HBr0.out.size _ | exact (HBr0.out.alloc HBr0.out.size _).alloc (le_al HBr0.out.size) _ | exact ((HBr0.out.alloc HBr0.out.size _).alloc (le_al HBr0.out.size) _).alloc (le_al (le_al HBr0.out.size)) _ | exact HBr0.out.drew | exact (HBr0.out.alloc HBr0.out.size _).drew | exact ((HBr0.out.alloc HBr0.out.size _).alloc (le_al HBr0.out.size) _).drew) (hbr2.mono (by (try simp only [size_drew]); (try simp only [World.size_alloc]); (try simp only [size_setCell']); omega)))
          have HNr2 := Lib.hid hbr2
          clear hbr2 hsr2
          have HCK := Lib.hid (check_any _ _ G.n G.e r2 (HI1.out.below HNr2.out) hs2 (by have := HOK.out.len; omega) (by have := HOK.out.few; omega) HNM.out)
          clear hs2
          go_wp2_with fail
          refine (HCK.out).mono ?_
          rintro e r3 ⟨cv, rfl, hrow, hbr3⟩
          obtain ⟨hcr3, hfr3⟩ := bcell hbr3
          have hsr3 := hbr3.size
          try simp only [size_drew] at hsr3
          try simp only [World.size_alloc] at hsr3
          try simp only [size_setCell'] at hsr3
          try have ler3_0 : wr.heap.size ≤ r3.heap.size := (by omega)
          try have ltr3_0 : wr.heap.size < r3.heap.size := (by omega)
          try have ler3_1 : r1.heap.size ≤ r3.heap.size := (by omega)
          try have ltr3_1 : r1.heap.size < r3.heap.size := (by omega)
          try have ler3_2 : r2.heap.size ≤ r3.heap.size := (by omega)
          try have ltr3_2 : r2.heap.size < r3.heap.size := (by omega)
          have HBr3 : Hid (Below wr.heap.size wr r3) := Lib.hid (Below.trans (by first | exact HBr2.out | exact HBr2.out.alloc HBr2.out.size _ | exact (HBr2.out.alloc HBr2.out.size _).alloc (le_al HBr2.out.size) _ | exact ((HBr2.out.alloc HBr2.out.size _).alloc (le_al HBr2.out.size) _).alloc (le_al (le_al HBr2.out.size)) _ | exact HBr2.out.drew | exact (HBr2.out.alloc HBr2.out.size _).drew | exact ((HBr2.out.alloc HBr2.out.size _).alloc (le_al HBr2.out.size) _).drew | exact HBr1.out | exact HBr1.out.alloc HBr1.out.size _ | exact (HBr1.out.alloc HBr1.out.size _).alloc (le_al HBr1.out.size) _ | exact ((HBr1.out.alloc HBr1.out.size _).alloc (le_al HBr1.out.size) _).alloc (le_al (le_al HBr1.out.size)) _ | exact HBr1.out.drew | exact (HBr1.out.alloc HBr1.out.size _).drew | exact ((HBr1.out.alloc HBr1.out.size _).alloc (le_al HBr1.out.size) _).drew | exact HBr0.out | exact HBr0.out.alloc HBr0.out.size _ | exact (HBr0.out.alloc HBr0.out.size _).alloc (le_al HBr0.out.size) _ | exact ((HBr0.out.alloc HBr0.out.size _).alloc (le_al HBr0.out.size) _).alloc (le_al (le_al HBr0.out.size)) _ | exact HBr0.out.drew | exact (HBr0.out.alloc HBr0.out.size _).drew | exact ((HBr0.out.alloc HBr0.out.size _).alloc (le_al HBr0.out.size) _).drew) (hbr3.mono (by (try simp only [size_drew]); (try simp only [World.size_alloc]); (try simp only [size_setCell']); omega)))
          have HNr3 := Lib.hid hbr3
          clear hbr3 hsr3
          rw [← i64_map] at hrow
          have hsl : SlAt r3 1 I64.cells cv (faults G.n G.e) := SlAt.of_row (fun _ => rfl) hrow
          have HFL := Lib.hid hsl
          obtain ⟨fa, fc, rfl⟩ := hsl.len
          clear hrow hsl
          generalize faults G.n G.e = F at *
          obtain ⟨wo2, hwo2⟩ : ∃ wo2, wo2 = wr := ⟨_, rfl⟩
          subst hwo2
          go_wp2
          go_loopg [12] F.length (fun gg s12 wr => ∃ k : Nat, s12 = .int .i64 k ∧ k ≤ F.length ∧ F.length - k ≤ gg ∧ Aside (Below r3.heap.size r3 wr))
          case atStart => exact ⟨0, rfl, Nat.zero_le _, by omega, (show Aside _ from Below.refl _ _)⟩
          case round =>
            obtain ⟨k, rfl, hkl, hgk, hB⟩ := hrel
            have hk0 : (0 : Int) ≤ (k : Int) := by omega
            have hwk : IntKind.i64.wrap ((k : Int) + 1) = (k : Int) + 1 := wrapNat (k + 1) (by have := HFF.out.1; omega)
            by_cases hlk : k < F.length
            · have c1 : (k : Int) < (F.length : Int) := by omega
              obtain ⟨fb, fo, rfl, _, hfc⟩ := slAt_at (HFL.out.below hB.out) hlk
              have x0 := hfc k hlk 0 _ rfl
              rw [Nat.add_zero, Nat.mul_one] at x0
              have h5 : decide (F[k]! < 5) = false := by rw [decide_eq_false_iff_not]; have := HFF.out.2 _ (getElem!_mem hlk); omega
              clear hfc
              generalize F[k]! = z at *
              go_wp2
              go_roundg (F.length - (k + 1))
              case measure => omega
              case rel => exact ⟨k + 1, by first | rfl | go_num, by omega, by omega, (show Aside _ from hB.out)⟩
            · have c1 : ¬ (k : Int) < (F.length : Int) := by omega
              clear hlk
              go_wp2
              go_ret
              exact ⟨rfl, HBW.out.trans ((HBr3.out.trans (hB.out.mono HBr3.out.size)).mono HBW.out.size)⟩

theorem graph_walk (v1 : Value) (ids : List St) (v2 : Value) (kinds : List Int) (v3 : Value) (es : List Ent) (w : World) (hs1 : SlAt w 2 St.cells v1 ids) (h1 : ∀ z ∈ ids, True) (hs2 : SlAt w 1 I64.cells v2 kinds) (h2 : ∀ z ∈ kinds, True) (hs3 : SlAt w 5 Ent.cells v3 es) (h3 : ∀ z ∈ es, z.name.size ≤ maxLen) :
    Calls Tryz.prog 3 #[v1, v2, v3] w fun y w' => y = .returned (.bool true) ∧ Below w.heap.size w w' := by
  by_cases hb : es.length ≤ 100
  · by_cases ha : 100 < ids.length ∧ 100 < kinds.length
    · exact graph_top_es v1 ids v2 kinds v3 es w hs1 h1 hs2 h2 hs3 h3 ha.1 ha.2 hb
    · by_cases hc : ids.length ≤ kinds.length
      · exact graph_ids_es v1 ids v2 kinds v3 es w hs1 h1 hs2 h2 hs3 h3 hc (by omega) hb
      · exact graph_kinds_es v1 ids v2 kinds v3 es w hs1 h1 hs2 h2 hs3 h3 (by omega) (by omega) hb
  · by_cases ha : 100 < ids.length ∧ 100 < kinds.length
    · exact graph_top_top v1 ids v2 kinds v3 es w hs1 h1 hs2 h2 hs3 h3 ha.1 ha.2 (by omega)
    · by_cases hc : ids.length ≤ kinds.length
      · exact graph_ids_top v1 ids v2 kinds v3 es w hs1 h1 hs2 h2 hs3 h3 hc (by omega) (by omega)
      · exact graph_kinds_top v1 ids v2 kinds v3 es w hs1 h1 hs2 h2 hs3 h3 (by omega) (by omega) (by omega)
end Go.Proofs.YtlokljaeknmdpaaGreat.L10
