/-
  graph.Drop, Set, Make; condition: the graph is in order.
-/
import Derived.Test.YtlokljaeknmdpaaGreatQGrTie
namespace Go.Proofs.YtlokljaeknmdpaaGreat
open Go.RowKit Go.Shelf

/-- what a deed leaves: its answer, the graph, all else but its maps -/
def Done (gb mI mE : Nat) (g' : Gr) (v : Value) (w : World) (e : Ending) (w' : World) : Prop := e = .returned v ∧ GrAt w' gb mI mE g' ∧ Turn (Maps2 mI mE) w w'

set_option maxRecDepth 100000 in
set_option maxHeartbeats 2000000 in
theorem drop_g (gb mI mE : Nat) (g : Gr) (id : St) (w : World) (h : GrAt w gb mI mE g) (hok : g.Ok) (hl : g.e.length ≤ 1000) :
    Calls Tryz.prog 83 #[.pointer (some ⟨gb, 0, none⟩), id.v] w (Done gb mI mE (g.drop id) (.int .i64 (g.dropWhy id)) w) := by
  have HB0 : Hid (Below w.heap.size w (w.alloc (.cells #[.int .i64 id.t, .int .i64 id.r] 31))) := Lib.hid ((Below.refl _ w).alloc (Nat.le_refl _) _)
  have HG : Hid (∀ W, Below w.heap.size w W → Calls Tryz.prog 42 #[.pointer (some ⟨gb, 0, none⟩), (.agg #[.int .i64 id.t, .int .i64 id.r])] W fun e w' => e = .returned (.tuple #[(g.got id).v, .bool (g.get id).isSome]) ∧ Below W.heap.size W w') := Lib.hid fun W hW => (get_any gb mI mE g id W (h.below hW) hok.sn).mono fun e w' ⟨a, b⟩ => ⟨a, b.below⟩
  have HL : Hid (∀ W, Below w.heap.size w W → Calls Tryz.prog 135 #[.pointer (some ⟨gb, 0, none⟩), (.agg #[.int .i64 id.t, .int .i64 id.r])] W fun e w' => (∃ a c, e = .returned (.slice a (g.list id).length c)) ∧ Below W.heap.size W w') := Lib.hid fun W hW => (list_any gb mI mE g id W (h.below hW) hok.se hl).mono fun e w' ⟨v, a, b, c⟩ => by
    obtain ⟨x, y, rfl⟩ := ownsRow_len b
    exact ⟨⟨x, y, a⟩, c⟩
  have HD : Hid (∀ W, Below w.heap.size w W → ∃ w', (Builtin.delete_ #[89, 31] 0 #[.map (some mI), (.agg #[.int .i64 id.t, .int .i64 id.r])]).run Tryz.prog W = .ok (.tuple #[]) w' ∧ GrAt w' gb mI mE (g.dropped id) ∧ Turn (· = mI) W w') := Lib.hid fun W hW => (h.below hW).run_del_node hok.sn id 0 _
  have HGA : Hid (∀ W, Below w.heap.size w W → GrAt W gb mI mE g ∧ Turn (Maps2 mI mE) w W) := Lib.hid fun W hW => ⟨h.below hW, hW.turn _⟩
  have HCE : Hid (∀ W, Below w.heap.size w W → W.cell? ⟨gb, 0, none⟩ = some (.map (some mI))) := Lib.hid fun W hW => (h.below hW).cells.1
  obtain ⟨c0, c1⟩ := h.cells
  have hlt := h.lt.1
  have hll : ((g.list id).length : Int) ≤ 1000 := by
    have : (g.list id).length ≤ g.e.length := List.length_filter_le _ _
    omega
  have hcase := St.three id ⟨0, 0⟩
  clear h hok hl c1
  have key : ∀ t, g.dropWhy id = t → t ≠ 0 → g.drop id = g := fun t h1 h2 => by unfold Gr.drop; rw [h1, if_neg h2]
  have hdw : g.dropWhy id = if !(g.get id).isSome then 3 else if id = ⟨0, 0⟩ then 8 else if 0 < (g.got id).links ∨ 0 < (g.list id).length then 7 else 0 := rfl
  generalize g.got id = i at HG hdw
  generalize (g.list id).length = n at HL hll hdw
  obtain ⟨d, k, l, m, s⟩ := i
  unfold Ino.v at HG
  unfold St.v
  cases hs : (g.get id).isSome with
  | false =>
    rw [hs] at HG
    have e : g.dropWhy id = 3 := by rw [hdw, hs]; rfl
    rw [key 3 e (by decide), e]
    clear key hdw hs e hcase
    go_enter Tryz.func83, Tryz.ntmps83
    go_wp2_with fail
    refine (HG.out _ (by first | exact HB0.out | exact HB0.out.alloc HB0.out.size _ | exact (HB0.out.alloc HB0.out.size _).alloc (le_al HB0.out.size) _ | exact ((HB0.out.alloc HB0.out.size _).alloc (le_al HB0.out.size) _).alloc (le_al (le_al HB0.out.size)) _)).mono ?_
    rintro e w1 ⟨rfl, hb1⟩
    obtain ⟨hc1, hf1⟩ := bcell hb1
    have hs1 := hb1.size
    try simp only [World.size_alloc] at hs1
    try simp only [size_setCell'] at hs1
    try have le1_0 : w.heap.size ≤ w1.heap.size := (by omega)
    try have lt1_0 : w.heap.size < w1.heap.size := (by omega)
    have HB1 : Hid (Below w.heap.size w w1) := Lib.hid (Below.trans (by first | exact HB0.out | exact HB0.out.alloc HB0.out.size _ | exact (HB0.out.alloc HB0.out.size _).alloc (le_al HB0.out.size) _ | exact ((HB0.out.alloc HB0.out.size _).alloc (le_al HB0.out.size) _).alloc (le_al (le_al HB0.out.size)) _) (hb1.mono (by (try simp only [World.size_alloc]); (try simp only [size_setCell']); omega)))
    have HN1 := Lib.hid hb1
    clear hb1 hs1
    go_wp2
    go_ret
    exact ⟨rfl, HGA.out _ (by first | exact HB1.out | exact HB1.out.alloc HB1.out.size _ | exact (HB1.out.alloc HB1.out.size _).alloc (le_al HB1.out.size) _ | exact ((HB1.out.alloc HB1.out.size _).alloc (le_al HB1.out.size) _).alloc (le_al (le_al HB1.out.size)) _)⟩
  | true =>
    rw [hs] at HG
    rcases hcase with rfl | hne
    · have e : g.dropWhy ⟨0, 0⟩ = 8 := by rw [hdw, hs]; rfl
      rw [key 8 e (by decide), e]
      clear key hdw hs e
      go_enter Tryz.func83, Tryz.ntmps83
      go_wp2_with fail
      refine (HG.out _ (by first | exact HB0.out | exact HB0.out.alloc HB0.out.size _ | exact (HB0.out.alloc HB0.out.size _).alloc (le_al HB0.out.size) _ | exact ((HB0.out.alloc HB0.out.size _).alloc (le_al HB0.out.size) _).alloc (le_al (le_al HB0.out.size)) _)).mono ?_
      rintro e w1 ⟨rfl, hb1⟩
      obtain ⟨hc1, hf1⟩ := bcell hb1
      have hs1 := hb1.size
      try simp only [World.size_alloc] at hs1
      try simp only [size_setCell'] at hs1
      try have le1_0 : w.heap.size ≤ w1.heap.size := (by omega)
      try have lt1_0 : w.heap.size < w1.heap.size := (by omega)
      have HB1 : Hid (Below w.heap.size w w1) := Lib.hid (Below.trans (by first | exact HB0.out | exact HB0.out.alloc HB0.out.size _ | exact (HB0.out.alloc HB0.out.size _).alloc (le_al HB0.out.size) _ | exact ((HB0.out.alloc HB0.out.size _).alloc (le_al HB0.out.size) _).alloc (le_al (le_al HB0.out.size)) _) (hb1.mono (by (try simp only [World.size_alloc]); (try simp only [size_setCell']); omega)))
      have HN1 := Lib.hid hb1
      clear hb1 hs1
      go_wp2
      go_ret
      exact ⟨rfl, HGA.out _ (by first | exact HB1.out | exact HB1.out.alloc HB1.out.size _ | exact (HB1.out.alloc HB1.out.size _).alloc (le_al HB1.out.size) _ | exact ((HB1.out.alloc HB1.out.size _).alloc (le_al HB1.out.size) _).alloc (le_al (le_al HB1.out.size)) _)⟩
    · have hne0 : id ≠ ⟨0, 0⟩ := by rcases hne with ⟨h, _⟩ | ⟨r, rfl, h, _⟩ <;> exact h
      rw [hs] at hdw
      simp only [Bool.not_true, Bool.false_eq_true, if_false, if_neg hne0] at hdw
      have HNE := Lib.hid hne0
      clear hs hne0
      by_cases h1 : 0 < l
      · have e : g.dropWhy id = 7 := by rw [hdw, if_pos (.inl h1)]
        rw [key 7 e (by decide), e]
        clear key hdw e
        rcases hne with ⟨_, ht⟩ | ⟨r, rfl, _, hr⟩
        all_goals
          go_enter Tryz.func83, Tryz.ntmps83
          go_wp2_with fail
          refine (HG.out _ (by first | exact HB0.out | exact HB0.out.alloc HB0.out.size _ | exact (HB0.out.alloc HB0.out.size _).alloc (le_al HB0.out.size) _ | exact ((HB0.out.alloc HB0.out.size _).alloc (le_al HB0.out.size) _).alloc (le_al (le_al HB0.out.size)) _)).mono ?_
          rintro e w1 ⟨rfl, hb1⟩
          obtain ⟨hc1, hf1⟩ := bcell hb1
          have hs1 := hb1.size
          try simp only [World.size_alloc] at hs1
          try simp only [size_setCell'] at hs1
          try have le1_0 : w.heap.size ≤ w1.heap.size := (by omega)
          try have lt1_0 : w.heap.size < w1.heap.size := (by omega)
          have HB1 : Hid (Below w.heap.size w w1) := Lib.hid (Below.trans (by first | exact HB0.out | exact HB0.out.alloc HB0.out.size _ | exact (HB0.out.alloc HB0.out.size _).alloc (le_al HB0.out.size) _ | exact ((HB0.out.alloc HB0.out.size _).alloc (le_al HB0.out.size) _).alloc (le_al (le_al HB0.out.size)) _) (hb1.mono (by (try simp only [World.size_alloc]); (try simp only [size_setCell']); omega)))
          have HN1 := Lib.hid hb1
          clear hb1 hs1
          go_wp2
          go_ret
          exact ⟨rfl, HGA.out _ (by first | exact HB1.out | exact HB1.out.alloc HB1.out.size _ | exact (HB1.out.alloc HB1.out.size _).alloc (le_al HB1.out.size) _ | exact ((HB1.out.alloc HB1.out.size _).alloc (le_al HB1.out.size) _).alloc (le_al (le_al HB1.out.size)) _)⟩
      · by_cases h2 : 0 < n
        · have e : g.dropWhy id = 7 := by rw [hdw, if_pos (.inr h2)]
          rw [key 7 e (by decide), e]
          clear key hdw e
          have h2' : (0 : Int) < (n : Int) := by omega
          rcases hne with ⟨_, ht⟩ | ⟨r, rfl, _, hr⟩
          all_goals
            go_enter Tryz.func83, Tryz.ntmps83
            go_wp2_with fail
            refine (HG.out _ (by first | exact HB0.out | exact HB0.out.alloc HB0.out.size _ | exact (HB0.out.alloc HB0.out.size _).alloc (le_al HB0.out.size) _ | exact ((HB0.out.alloc HB0.out.size _).alloc (le_al HB0.out.size) _).alloc (le_al (le_al HB0.out.size)) _)).mono ?_
            rintro e w1 ⟨rfl, hb1⟩
            obtain ⟨hc1, hf1⟩ := bcell hb1
            have hs1 := hb1.size
            try simp only [World.size_alloc] at hs1
            try simp only [size_setCell'] at hs1
            try have le1_0 : w.heap.size ≤ w1.heap.size := (by omega)
            try have lt1_0 : w.heap.size < w1.heap.size := (by omega)
            have HB1 : Hid (Below w.heap.size w w1) := Lib.hid (Below.trans (by first | exact HB0.out | exact HB0.out.alloc HB0.out.size _ | exact (HB0.out.alloc HB0.out.size _).alloc (le_al HB0.out.size) _ | exact ((HB0.out.alloc HB0.out.size _).alloc (le_al HB0.out.size) _).alloc (le_al (le_al HB0.out.size)) _) (hb1.mono (by (try simp only [World.size_alloc]); (try simp only [size_setCell']); omega)))
            have HN1 := Lib.hid hb1
            clear hb1 hs1
            go_wp2_with fail
            refine (HL.out _ (by first | exact HB1.out | exact HB1.out.alloc HB1.out.size _ | exact (HB1.out.alloc HB1.out.size _).alloc (le_al HB1.out.size) _ | exact ((HB1.out.alloc HB1.out.size _).alloc (le_al HB1.out.size) _).alloc (le_al (le_al HB1.out.size)) _ | exact HB0.out | exact HB0.out.alloc HB0.out.size _ | exact (HB0.out.alloc HB0.out.size _).alloc (le_al HB0.out.size) _ | exact ((HB0.out.alloc HB0.out.size _).alloc (le_al HB0.out.size) _).alloc (le_al (le_al HB0.out.size)) _)).mono ?_
            rintro e w2 ⟨⟨a, c, rfl⟩, hb2⟩
            obtain ⟨hc2, hf2⟩ := bcell hb2
            have hs2 := hb2.size
            try simp only [World.size_alloc] at hs2
            try simp only [size_setCell'] at hs2
            try have le2_0 : w.heap.size ≤ w2.heap.size := (by omega)
            try have lt2_0 : w.heap.size < w2.heap.size := (by omega)
            try have le2_1 : w1.heap.size ≤ w2.heap.size := (by omega)
            try have lt2_1 : w1.heap.size < w2.heap.size := (by omega)
            have HB2 : Hid (Below w.heap.size w w2) := Lib.hid (Below.trans (by first | exact HB1.out | exact HB1.out.alloc HB1.out.size _ | exact (HB1.out.alloc HB1.out.size _).alloc (le_al HB1.out.size) _ | exact ((HB1.out.alloc HB1.out.size _).alloc (le_al HB1.out.size) _).alloc (le_al (le_al HB1.out.size)) _ | exact HB0.out | exact HB0.out.alloc HB0.out.size _ | exact (HB0.out.alloc HB0.out.size _).alloc (le_al HB0.out.size) _ | exact ((HB0.out.alloc HB0.out.size _).alloc (le_al HB0.out.size) _).alloc (le_al (le_al HB0.out.size)) _) (hb2.mono (by (try simp only [World.size_alloc]); (try simp only [size_setCell']); omega)))
            have HN2 := Lib.hid hb2
            clear hb2 hs2
            go_wp2
            go_ret
            exact ⟨rfl, HGA.out _ (by first | exact HB2.out | exact HB2.out.alloc HB2.out.size _ | exact (HB2.out.alloc HB2.out.size _).alloc (le_al HB2.out.size) _ | exact ((HB2.out.alloc HB2.out.size _).alloc (le_al HB2.out.size) _).alloc (le_al (le_al HB2.out.size)) _)⟩
        · have e : g.dropWhy id = 0 := by rw [hdw, if_neg (by omega)]
          have ed : g.drop id = g.dropped id := by unfold Gr.drop; rw [e, if_pos rfl]
          rw [ed, e]
          clear key hdw e ed
          have h2' : ¬ (0 : Int) < (n : Int) := by omega
          rcases hne with ⟨_, ht⟩ | ⟨r, rfl, _, hr⟩
          all_goals
            go_enter Tryz.func83, Tryz.ntmps83
            go_wp2_with fail
            refine (HG.out _ (by first | exact HB0.out | exact HB0.out.alloc HB0.out.size _ | exact (HB0.out.alloc HB0.out.size _).alloc (le_al HB0.out.size) _ | exact ((HB0.out.alloc HB0.out.size _).alloc (le_al HB0.out.size) _).alloc (le_al (le_al HB0.out.size)) _)).mono ?_
            rintro e w1 ⟨rfl, hb1⟩
            obtain ⟨hc1, hf1⟩ := bcell hb1
            have hs1 := hb1.size
            try simp only [World.size_alloc] at hs1
            try simp only [size_setCell'] at hs1
            try have le1_0 : w.heap.size ≤ w1.heap.size := (by omega)
            try have lt1_0 : w.heap.size < w1.heap.size := (by omega)
            have HB1 : Hid (Below w.heap.size w w1) := Lib.hid (Below.trans (by first | exact HB0.out | exact HB0.out.alloc HB0.out.size _ | exact (HB0.out.alloc HB0.out.size _).alloc (le_al HB0.out.size) _ | exact ((HB0.out.alloc HB0.out.size _).alloc (le_al HB0.out.size) _).alloc (le_al (le_al HB0.out.size)) _) (hb1.mono (by (try simp only [World.size_alloc]); (try simp only [size_setCell']); omega)))
            have HN1 := Lib.hid hb1
            clear hb1 hs1
            go_wp2_with fail
            refine (HL.out _ (by first | exact HB1.out | exact HB1.out.alloc HB1.out.size _ | exact (HB1.out.alloc HB1.out.size _).alloc (le_al HB1.out.size) _ | exact ((HB1.out.alloc HB1.out.size _).alloc (le_al HB1.out.size) _).alloc (le_al (le_al HB1.out.size)) _ | exact HB0.out | exact HB0.out.alloc HB0.out.size _ | exact (HB0.out.alloc HB0.out.size _).alloc (le_al HB0.out.size) _ | exact ((HB0.out.alloc HB0.out.size _).alloc (le_al HB0.out.size) _).alloc (le_al (le_al HB0.out.size)) _)).mono ?_
            rintro e w2 ⟨⟨a, c, rfl⟩, hb2⟩
            obtain ⟨hc2, hf2⟩ := bcell hb2
            have hs2 := hb2.size
            try simp only [World.size_alloc] at hs2
            try simp only [size_setCell'] at hs2
            try have le2_0 : w.heap.size ≤ w2.heap.size := (by omega)
            try have lt2_0 : w.heap.size < w2.heap.size := (by omega)
            try have le2_1 : w1.heap.size ≤ w2.heap.size := (by omega)
            try have lt2_1 : w1.heap.size < w2.heap.size := (by omega)
            have HB2 : Hid (Below w.heap.size w w2) := Lib.hid (Below.trans (by first | exact HB1.out | exact HB1.out.alloc HB1.out.size _ | exact (HB1.out.alloc HB1.out.size _).alloc (le_al HB1.out.size) _ | exact ((HB1.out.alloc HB1.out.size _).alloc (le_al HB1.out.size) _).alloc (le_al (le_al HB1.out.size)) _ | exact HB0.out | exact HB0.out.alloc HB0.out.size _ | exact (HB0.out.alloc HB0.out.size _).alloc (le_al HB0.out.size) _ | exact ((HB0.out.alloc HB0.out.size _).alloc (le_al HB0.out.size) _).alloc (le_al (le_al HB0.out.size)) _) (hb2.mono (by (try simp only [World.size_alloc]); (try simp only [size_setCell']); omega)))
            have HN2 := Lib.hid hb2
            clear hb2 hs2
            obtain ⟨w3, hu, hG3, hT3⟩ := HD.out w2.drew HB2.out.drew
            have HG3 := Lib.hid hG3
            have HT3 : Hid (Turn (Maps2 mI mE) w w3) := Lib.hid ((HB2.out.drew.turn _).trans hT3.I)
            have cg := HCE.out w2 HB2.out
            clear hG3 hT3
            go_wp2
            go_region
            all_goals
              go_wp2
              go_ret
              exact ⟨rfl, HG3.out, HT3.out⟩

set_option maxRecDepth 100000 in
set_option maxHeartbeats 2000000 in
theorem set_g (gb mI mE : Nat) (g : Gr) (id : St) (mode : Int) (data : ByteArray) (w : World) (h : GrAt w gb mI mE g) (hok : g.Ok) :
    Calls Tryz.prog 84 #[.pointer (some ⟨gb, 0, none⟩), id.v, .int .i64 mode, .string data] w (Done gb mI mE (if g.setWhy id = 0 then g.set id mode data else g) (.int .i64 (g.setWhy id)) w) := by
  have HB0 : Hid (Below w.heap.size w (w.alloc (.cells #[.int .i64 id.t, .int .i64 id.r] 31))) := Lib.hid ((Below.refl _ w).alloc (Nat.le_refl _) _)
  have HG : Hid (∀ W, Below w.heap.size w W → Calls Tryz.prog 42 #[.pointer (some ⟨gb, 0, none⟩), (.agg #[.int .i64 id.t, .int .i64 id.r])] W fun e w' => e = .returned (.tuple #[(g.got id).v, .bool (g.get id).isSome]) ∧ Below W.heap.size W w') := Lib.hid fun W hW => (get_any gb mI mE g id W (h.below hW) hok.sn).mono fun e w' ⟨a, b⟩ => ⟨a, b.below⟩
  have HGA : Hid (∀ W, Below w.heap.size w W → GrAt W gb mI mE g ∧ Turn (Maps2 mI mE) w W) := Lib.hid fun W hW => ⟨h.below hW, hW.turn _⟩
  have HCE : Hid (∀ W, Below w.heap.size w W → W.cell? ⟨gb, 0, none⟩ = some (.map (some mI))) := Lib.hid fun W hW => (h.below hW).cells.1
  have HU : Hid ((g.get id).isSome = true → ∀ W, Below w.heap.size w W → ∃ w', (Instr.mapUpdate 89 (.map (some mI)) (.agg #[.int .i64 id.t, .int .i64 id.r]) (setTo mode data (g.got id)).v).run Tryz.prog W = .ok () w' ∧ GrAt w' gb mI mE (g.set id mode data) ∧ Turn (· = mI) W w') := Lib.hid fun hs W hW => (h.below hW).run_put_node hok.sn (setTo mode data) (fun _ => rfl) hs
  have hlt := h.lt.1
  obtain ⟨c0, c1⟩ := h.cells
  clear h hok c1
  unfold Gr.setWhy
  generalize g.got id = i at HG HU
  obtain ⟨d, k, l, m, s⟩ := i
  unfold setTo Ino.v at HU
  unfold Ino.v at HG
  unfold St.v
  cases hs : (g.get id).isSome with
  | false =>
    rw [hs] at HG
    simp only [Bool.false_eq_true, if_false]
    rw [if_neg (by decide)]
    clear hs HU
    go_enter Tryz.func84, Tryz.ntmps84
    go_wp2_with fail
    refine (HG.out _ (by first | exact HB0.out | exact HB0.out.alloc HB0.out.size _ | exact (HB0.out.alloc HB0.out.size _).alloc (le_al HB0.out.size) _ | exact ((HB0.out.alloc HB0.out.size _).alloc (le_al HB0.out.size) _).alloc (le_al (le_al HB0.out.size)) _)).mono ?_
    rintro e w1 ⟨rfl, hb1⟩
    obtain ⟨hc1, hf1⟩ := bcell hb1
    have hs1 := hb1.size
    try simp only [World.size_alloc] at hs1
    try simp only [size_setCell'] at hs1
    try have le1_0 : w.heap.size ≤ w1.heap.size := (by omega)
    try have lt1_0 : w.heap.size < w1.heap.size := (by omega)
    have HB1 : Hid (Below w.heap.size w w1) := Lib.hid (Below.trans (by first | exact HB0.out | exact HB0.out.alloc HB0.out.size _ | exact (HB0.out.alloc HB0.out.size _).alloc (le_al HB0.out.size) _ | exact ((HB0.out.alloc HB0.out.size _).alloc (le_al HB0.out.size) _).alloc (le_al (le_al HB0.out.size)) _) (hb1.mono (by (try simp only [World.size_alloc]); (try simp only [size_setCell']); omega)))
    have HN1 := Lib.hid hb1
    clear hb1 hs1
    go_wp2
    go_ret
    exact ⟨rfl, HGA.out _ (by first | exact HB1.out | exact HB1.out.alloc HB1.out.size _ | exact (HB1.out.alloc HB1.out.size _).alloc (le_al HB1.out.size) _ | exact ((HB1.out.alloc HB1.out.size _).alloc (le_al HB1.out.size) _).alloc (le_al (le_al HB1.out.size)) _)⟩
  | true =>
    rw [hs] at HG
    have HU2 := Lib.hid (HU.out hs)
    simp only [if_true]
    clear hs HU
    go_enter Tryz.func84, Tryz.ntmps84
    go_wp2_with fail
    refine (HG.out _ (by first | exact HB0.out | exact HB0.out.alloc HB0.out.size _ | exact (HB0.out.alloc HB0.out.size _).alloc (le_al HB0.out.size) _ | exact ((HB0.out.alloc HB0.out.size _).alloc (le_al HB0.out.size) _).alloc (le_al (le_al HB0.out.size)) _)).mono ?_
    rintro e w1 ⟨rfl, hb1⟩
    obtain ⟨hc1, hf1⟩ := bcell hb1
    have hs1 := hb1.size
    try simp only [World.size_alloc] at hs1
    try simp only [size_setCell'] at hs1
    try have le1_0 : w.heap.size ≤ w1.heap.size := (by omega)
    try have lt1_0 : w.heap.size < w1.heap.size := (by omega)
    have HB1 : Hid (Below w.heap.size w w1) := Lib.hid (Below.trans (by first | exact HB0.out | exact HB0.out.alloc HB0.out.size _ | exact (HB0.out.alloc HB0.out.size _).alloc (le_al HB0.out.size) _ | exact ((HB0.out.alloc HB0.out.size _).alloc (le_al HB0.out.size) _).alloc (le_al (le_al HB0.out.size)) _) (hb1.mono (by (try simp only [World.size_alloc]); (try simp only [size_setCell']); omega)))
    have HN1 := Lib.hid hb1
    clear hb1 hs1
    obtain ⟨w3, hu, hG3, hT3⟩ := HU2.out (w1.alloc (.cells #[.int .i64 d.t, .int .i64 d.r, .int .i64 k, .int .i64 l, .int .i64 mode, .string data] 62)).drew (HB1.out.alloc HB1.out.size _).drew
    have HG3 := Lib.hid hG3
    have HT3 : Hid (Turn (Maps2 mI mE) w w3) := Lib.hid (((HB1.out.alloc HB1.out.size _).drew.turn _).trans hT3.I)
    have cg := HCE.out w1 HB1.out
    have hgl1 : gb < w1.heap.size := by omega
    clear hG3 hT3
    go_wp2
    go_region
    all_goals
      go_wp2
      go_ret
      exact ⟨rfl, HG3.out, HT3.out⟩

set_option maxRecDepth 100000 in
set_option maxHeartbeats 2000000 in
theorem make_g (gb mI mE : Nat) (g : Gr) (id : St) (kind : Int) (w : World) (h : GrAt w gb mI mE g) (hok : g.Ok) :
    Calls Tryz.prog 19 #[.pointer (some ⟨gb, 0, none⟩), id.v, .int .i64 kind] w (Done gb mI mE (g.make id kind) (.int .i64 (g.makeWhy id kind)) w) := by
  have HB0 : Hid (Below w.heap.size w (w.alloc (.cells #[.int .i64 id.t, .int .i64 id.r] 31))) := Lib.hid ((Below.refl _ w).alloc (Nat.le_refl _) _)
  have HG : Hid (∀ W, Below w.heap.size w W → Calls Tryz.prog 42 #[.pointer (some ⟨gb, 0, none⟩), (.agg #[.int .i64 id.t, .int .i64 id.r])] W fun e w' => e = .returned (.tuple #[(g.got id).v, .bool (g.get id).isSome]) ∧ Below W.heap.size W w') := Lib.hid fun W hW => (get_any gb mI mE g id W (h.below hW) hok.sn).mono fun e w' ⟨a, b⟩ => ⟨a, b.below⟩
  have HM : Hid (∀ W, Calls Tryz.prog 62 #[(.agg #[.int .i64 id.t, .int .i64 id.r])] W fun e w' => e = .returned (.bool (mayB id.t id.r)) ∧ Below W.heap.size W w') := Lib.hid fun W => (may_any id.t id.r W).mono fun e w' ⟨a, b⟩ => ⟨a, b.below⟩
  have HGA : Hid (∀ W, Below w.heap.size w W → GrAt W gb mI mE g ∧ Turn (Maps2 mI mE) w W) := Lib.hid fun W hW => ⟨h.below hW, hW.turn _⟩
  have HCE : Hid (∀ W, Below w.heap.size w W → W.cell? ⟨gb, 0, none⟩ = some (.map (some mI))) := Lib.hid fun W hW => (h.below hW).cells.1
  have HLN : Hid (∀ W, Below w.heap.size w W → (Builtin.len_ #[89] 3 #[.map (some mI)]).run Tryz.prog W = .ok (.int .i64 g.n.length) W) := Lib.hid fun W hW => (h.below hW).run_len _
  have HU : Hid (g.get id = none → ∀ W, Below w.heap.size w W → ∃ w', (Instr.mapUpdate 89 (.map (some mI)) (.agg #[.int .i64 id.t, .int .i64 id.r]) (.agg #[.int .i64 id.t, .int .i64 id.r, .int .i64 kind, .int .i64 0, .int .i64 0, .string ⟨#[]⟩])).run Tryz.prog W = .ok () w' ∧ GrAt w' gb mI mE (g.made id kind) ∧ Turn (· = mI) W w') := Lib.hid fun hs W hW => (h.below hW).run_new_node hs ⟨id, kind, 0, 0, ⟨#[]⟩⟩ rfl
  have hlt := h.lt.1
  obtain ⟨c0, c1⟩ := h.cells
  have hcase : (∃ t, t ≠ 0 ∧ g.makeWhy id kind = t) ∨ g.makeWhy id kind = 0 := by
    by_cases h : g.makeWhy id kind = 0
    · exact .inr h
    · exact .inl ⟨_, h, rfl⟩
  have hln : (g.n.length : Int) ≤ 40 := by have := hok.len; omega
  clear h hok c1
  have hdw : g.makeWhy id kind = if !mayB id.t id.r || (decide (kind < 1) || decide (3 < kind)) then 1 else if (g.get id).isSome then 4 else if 40 ≤ g.n.length then 13 else 0 := rfl
  have hmk : g.make id kind = if g.makeWhy id kind = 0 then g.made id kind else g := rfl
  generalize hgi : g.got id = i at HG
  generalize hgl : g.n.length = n at HLN hdw hln
  obtain ⟨d, k, l, m, s⟩ := i
  unfold Ino.v at HG
  unfold St.v
  clear hgi hgl
  have h5 : (∃ t, g.makeWhy id kind = t ∧ t ≠ 0 ∧ ((mayB id.t id.r = false ∧ t = 1) ∨ (mayB id.t id.r = true ∧ kind < 1 ∧ t = 1) ∨ (mayB id.t id.r = true ∧ 1 ≤ kind ∧ 3 < kind ∧ t = 1) ∨ (mayB id.t id.r = true ∧ 1 ≤ kind ∧ kind ≤ 3 ∧ (g.get id).isSome = true ∧ t = 4) ∨ (mayB id.t id.r = true ∧ 1 ≤ kind ∧ kind ≤ 3 ∧ (g.get id).isSome = false ∧ (40 : Int) ≤ n ∧ t = 13))) ∨
      (g.makeWhy id kind = 0 ∧ mayB id.t id.r = true ∧ 1 ≤ kind ∧ kind ≤ 3 ∧ (g.get id).isSome = false ∧ ¬ (40 : Int) ≤ n) := by
    rw [hdw]
    cases hm : mayB id.t id.r with
    | false => exact .inl ⟨1, by simp, by decide, .inl ⟨rfl, rfl⟩⟩
    | true =>
      by_cases h1 : kind < 1
      · exact .inl ⟨1, by simp [h1], by decide, .inr (.inl ⟨rfl, h1, rfl⟩)⟩
      · by_cases h3 : 3 < kind
        · exact .inl ⟨1, by simp [h3], by decide, .inr (.inr (.inl ⟨rfl, by omega, h3, rfl⟩))⟩
        · cases hs : (g.get id).isSome with
          | true => exact .inl ⟨4, by simp [h1, h3], by decide, .inr (.inr (.inr (.inl ⟨rfl, by omega, by omega, rfl, rfl⟩)))⟩
          | false =>
            by_cases hn : 40 ≤ n
            · exact .inl ⟨13, by simp [h1, h3, hn], by decide, .inr (.inr (.inr (.inr ⟨rfl, by omega, by omega, rfl, by omega, rfl⟩)))⟩
            · exact .inr ⟨by simp [h1, h3, hn], rfl, by omega, by omega, rfl, by omega⟩
  clear hdw hcase
  rcases h5 with ⟨t, e, ht, h5⟩ | ⟨e, hm, h1, h3, hs, hn⟩
  · rw [if_neg (by rw [e]; exact ht)] at hmk
    rw [hmk, e]
    clear hmk e ht HU
    generalize hs : (g.get id).isSome = b at HG h5
    clear hs
    generalize hmm : mayB id.t id.r = mb at HM h5
    clear hmm
    rcases h5 with ⟨rfl, rfl⟩ | ⟨rfl, h1, rfl⟩ | ⟨rfl, h1, h3, rfl⟩ | ⟨rfl, h1, h3, rfl, rfl⟩ | ⟨rfl, h1, h3, rfl, hn, rfl⟩
    all_goals
      go_enter Tryz.func19, Tryz.ntmps19
      go_wp2_with fail
      refine (HG.out _ (by first | exact HB0.out | exact HB0.out.alloc HB0.out.size _ | exact (HB0.out.alloc HB0.out.size _).alloc (le_al HB0.out.size) _ | exact ((HB0.out.alloc HB0.out.size _).alloc (le_al HB0.out.size) _).alloc (le_al (le_al HB0.out.size)) _)).mono ?_
      rintro e w1 ⟨rfl, hb1⟩
      obtain ⟨hc1, hf1⟩ := bcell hb1
      have hs1 := hb1.size
      try simp only [World.size_alloc] at hs1
      try simp only [size_setCell'] at hs1
      try have le1_0 : w.heap.size ≤ w1.heap.size := (by omega)
      try have lt1_0 : w.heap.size < w1.heap.size := (by omega)
      have HB1 : Hid (Below w.heap.size w w1) := Lib.hid (Below.trans (by first | exact HB0.out | exact HB0.out.alloc HB0.out.size _ | exact (HB0.out.alloc HB0.out.size _).alloc (le_al HB0.out.size) _ | exact ((HB0.out.alloc HB0.out.size _).alloc (le_al HB0.out.size) _).alloc (le_al (le_al HB0.out.size)) _) (hb1.mono (by (try simp only [World.size_alloc]); (try simp only [size_setCell']); omega)))
      have HN1 := Lib.hid hb1
      clear hb1 hs1
      go_wp2_with fail
      refine (HM.out _).mono ?_
      rintro e w2 ⟨rfl, hb2⟩
      obtain ⟨hc2, hf2⟩ := bcell hb2
      have hs2 := hb2.size
      try simp only [World.size_alloc] at hs2
      try simp only [size_setCell'] at hs2
      try have le2_0 : w.heap.size ≤ w2.heap.size := (by omega)
      try have lt2_0 : w.heap.size < w2.heap.size := (by omega)
      try have le2_1 : w1.heap.size ≤ w2.heap.size := (by omega)
      try have lt2_1 : w1.heap.size < w2.heap.size := (by omega)
      have HB2 : Hid (Below w.heap.size w w2) := Lib.hid (Below.trans (by first | exact HB1.out | exact HB1.out.alloc HB1.out.size _ | exact (HB1.out.alloc HB1.out.size _).alloc (le_al HB1.out.size) _ | exact ((HB1.out.alloc HB1.out.size _).alloc (le_al HB1.out.size) _).alloc (le_al (le_al HB1.out.size)) _ | exact HB0.out | exact HB0.out.alloc HB0.out.size _ | exact (HB0.out.alloc HB0.out.size _).alloc (le_al HB0.out.size) _ | exact ((HB0.out.alloc HB0.out.size _).alloc (le_al HB0.out.size) _).alloc (le_al (le_al HB0.out.size)) _) (hb2.mono (by (try simp only [World.size_alloc]); (try simp only [size_setCell']); omega)))
      have HN2 := Lib.hid hb2
      clear hb2 hs2
      have cg := HCE.out w2 HB2.out
      have hll := HLN.out w2 HB2.out
      go_wp2
      go_ret
      exact ⟨rfl, HGA.out _ (by first | exact HB2.out | exact HB2.out.alloc HB2.out.size _ | exact (HB2.out.alloc HB2.out.size _).alloc (le_al HB2.out.size) _ | exact ((HB2.out.alloc HB2.out.size _).alloc (le_al HB2.out.size) _).alloc (le_al (le_al HB2.out.size)) _)⟩
  · rw [if_pos e] at hmk
    rw [hmk, e]
    have HU2 := Lib.hid (HU.out (by simpa using hs))
    clear hmk e HU
    rw [hs] at HG
    rw [hm] at HM
    clear hs hm
    go_enter Tryz.func19, Tryz.ntmps19
    go_wp2_with fail
    refine (HG.out _ (by first | exact HB0.out | exact HB0.out.alloc HB0.out.size _ | exact (HB0.out.alloc HB0.out.size _).alloc (le_al HB0.out.size) _ | exact ((HB0.out.alloc HB0.out.size _).alloc (le_al HB0.out.size) _).alloc (le_al (le_al HB0.out.size)) _)).mono ?_
    rintro e w1 ⟨rfl, hb1⟩
    obtain ⟨hc1, hf1⟩ := bcell hb1
    have hs1 := hb1.size
    try simp only [World.size_alloc] at hs1
    try simp only [size_setCell'] at hs1
    try have le1_0 : w.heap.size ≤ w1.heap.size := (by omega)
    try have lt1_0 : w.heap.size < w1.heap.size := (by omega)
    have HB1 : Hid (Below w.heap.size w w1) := Lib.hid (Below.trans (by first | exact HB0.out | exact HB0.out.alloc HB0.out.size _ | exact (HB0.out.alloc HB0.out.size _).alloc (le_al HB0.out.size) _ | exact ((HB0.out.alloc HB0.out.size _).alloc (le_al HB0.out.size) _).alloc (le_al (le_al HB0.out.size)) _) (hb1.mono (by (try simp only [World.size_alloc]); (try simp only [size_setCell']); omega)))
    have HN1 := Lib.hid hb1
    clear hb1 hs1
    go_wp2_with fail
    refine (HM.out _).mono ?_
    rintro e w2 ⟨rfl, hb2⟩
    obtain ⟨hc2, hf2⟩ := bcell hb2
    have hs2 := hb2.size
    try simp only [World.size_alloc] at hs2
    try simp only [size_setCell'] at hs2
    try have le2_0 : w.heap.size ≤ w2.heap.size := (by omega)
    try have lt2_0 : w.heap.size < w2.heap.size := (by omega)
    try have le2_1 : w1.heap.size ≤ w2.heap.size := (by omega)
    try have lt2_1 : w1.heap.size < w2.heap.size := (by omega)
    have HB2 : Hid (Below w.heap.size w w2) := Lib.hid (Below.trans (by first | exact HB1.out | exact HB1.out.alloc HB1.out.size _ | exact (HB1.out.alloc HB1.out.size _).alloc (le_al HB1.out.size) _ | exact ((HB1.out.alloc HB1.out.size _).alloc (le_al HB1.out.size) _).alloc (le_al (le_al HB1.out.size)) _ | exact HB0.out | exact HB0.out.alloc HB0.out.size _ | exact (HB0.out.alloc HB0.out.size _).alloc (le_al HB0.out.size) _ | exact ((HB0.out.alloc HB0.out.size _).alloc (le_al HB0.out.size) _).alloc (le_al (le_al HB0.out.size)) _) (hb2.mono (by (try simp only [World.size_alloc]); (try simp only [size_setCell']); omega)))
    have HN2 := Lib.hid hb2
    clear hb2 hs2
    have cg := HCE.out w2 HB2.out
    have hll := HLN.out w2 HB2.out
    obtain ⟨w3, hu, hG3, hT3⟩ := HU2.out w2.drew HB2.out.drew
    have HG3 := Lib.hid hG3
    have HT3 : Hid (Turn (Maps2 mI mE) w w3) := Lib.hid ((HB2.out.drew.turn _).trans hT3.I)
    have hgl1 : gb < w1.heap.size := by omega
    have hgl2 : gb ≤ w1.heap.size := by omega
    clear hG3 hT3
    go_wp2
    go_region
    all_goals
      go_wp2
      go_ret
      exact ⟨rfl, HG3.out, HT3.out⟩
end Go.Proofs.YtlokljaeknmdpaaGreat
