/-
  thimblelaw12.UndoBack: operations taken back, and done again; no condition but the texts' reach.
-/
import Derived.Test.YtlokljaeknmdpaaGreatKLD
import Derived.OpenShut
namespace Go.Proofs.YtlokljaeknmdpaaGreat.L12
open Go.RowKit Go.Shelf Go.Proofs

theorem u8_bounds' {n : Int} (h : (Lit.int .u8 n).wf = true) : 0 ≤ n ∧ n ≤ 255 := by
  unfold Lit.wf at h
  simp only [Bool.and_eq_true, decide_eq_true_eq] at h
  exact h
theorem rem_place' {n : Nat} {j : Int} (hj : 0 ≤ j) : ∃ m : Nat, j.tmod ((n : Int) + 1) = (m : Int) ∧ m ≤ n := by
  have h1 : 0 ≤ j.tmod ((n : Int) + 1) := Int.tmod_nonneg _ hj
  have h2 : j.tmod ((n : Int) + 1) < (n : Int) + 1 := Int.tmod_lt_of_pos _ (by omega)
  exact ⟨(j.tmod ((n : Int) + 1)).toNat, by omega, by omega⟩
theorem row_len {W : World} {B k n : Nat} {t : TypeId} {v : Value} {xs : List Value} (h : W.ownsRow B t k v n xs) : ∃ a c, v = .slice a n c := by
  rcases h.2 with ⟨rfl, rfl⟩ | ⟨g, cap, cur, rfl, _⟩
  · exact ⟨_, _, rfl⟩
  · exact ⟨_, _, rfl⟩
theorem raw_box {w : World} {vb : Nat} {r : Raw} (h : w.heap[vb]? = some (.cells r.cells.toArray 44 (0, 0))) : ∀ j u, r.cells[j]? = some u → w.cell? ((⟨vb, 0, none⟩ : Addr).add j) = some u := fun j u hj => by
  rw [Addr.add_lit, Nat.zero_add]
  simp only [World.cell?, h]
  simpa using hj
theorem grownBy_below {B : Nat} {w w' : World} {row : Option Nat} (h : w.grownBy w' row) (hB : B ≤ w.heap.size) (hr : ∀ k, row = some k → B ≤ k) : Below B w w' :=
  ⟨h.os, h.tape, h.output, h.size, fun k hk => h.block k (by omega) (fun e => by have := hr k e.symm; omega)⟩
theorem sl_turn {α : Type} [Inhabited α] {S : Nat → Prop} {w w' : World} {k : Nat} {enc : α → List Value} {v : Value} {zs : List α} (h : SlAt w k enc v zs) (ht : Turn S w w') : SlAt w' k enc v zs := by
  rcases h with h | ⟨b, off, c, rfl, h1, h2, h3, h4⟩
  · exact .inl h
  · exact .inr ⟨b, off, c, rfl, h1, h2, Nat.lt_of_lt_of_le h3 ht.size, fun j hj i u hu => (ht.cell ⟨b, _, none⟩ h3).trans (h4 j hj i u hu)⟩

set_option maxRecDepth 100000 in
set_option maxHeartbeats 8000000 in
theorem back_walk (v1 : Value) (l : List Op) (many : Int) (w : World) (hs1 : SlAt w 13 Op.cells v1 l) (hn1 : ∀ o ∈ l, o.Small) (hm : (Lit.int .u8 many).wf = true) :
    Calls Tryz.prog 4 #[v1, .int .u8 many] w fun y w' => y = .returned (.bool true) ∧ Below w.heap.size w w' := by
  have HF1 := Lib.hid (fun W (hW : Below w.heap.size w W) => few_any v1 l W (hs1.below hW))
  have HB0 : Hid (Below w.heap.size w w) := Lib.hid (Below.refl _ _)
  obtain ⟨i0, hinf, hz0, hz1, hz2⟩ := info_parts infoRec
  obtain ⟨hm0, hm1⟩ := u8_bounds' hm
  have hwm : IntKind.i64.wrap many = many := by rw [IntKind.wrap_i64]; omega
  obtain ⟨m, hmm, hml⟩ := rem_place' (n := l.length) hm0
  have HSL : Hid (∀ W, Below w.heap.size w W → SlAt W 13 Op.cells v1 l) := Lib.hid fun W hW => hs1.below hW
  have HNM := Lib.hid hn1
  obtain ⟨a1, c1, rfl⟩ := hs1.len
  have hcap : l.length ≤ c1 := by
    rcases hs1 with ⟨_, _, h0, rfl⟩ | ⟨_, _, _, h0, h1, _⟩
    · exact Nat.zero_le _
    · simp only [Value.slice.injEq] at h0
      obtain ⟨_, _, rfl⟩ := h0
      exact h1
  have HMA := Lib.hid (fun (hl : l.length ≤ 1000) W (hW : Below w.heap.size w W) => made_any (.slice a1 m c1) (l.take m) W ((sl_take hs1 hml).below hW) (fun o ho => hn1 o (List.mem_of_mem_take ho)) (by rw [List.length_take]; omega))
  clear hs1 hn1 hm
  cases hf1 : decide (l.length ≤ 60) with
  | false =>
    rw [hf1] at HF1
    clear hf1
    go_enter Tryz.func4, Tryz.ntmps4
    go_wp2_with fail
    refine (shown_any _).mono ?_
    rintro e w1 ⟨rfl, hb1⟩
    obtain ⟨hc1, hf1⟩ := bcell hb1
    have hs1 := hb1.size
    try simp only [World.size_alloc] at hs1
    try simp only [size_setCell'] at hs1
    try have le1_0 : w.heap.size ≤ w1.heap.size := (by omega)
    try have lt1_0 : w.heap.size < w1.heap.size := (by omega)
    have HB1 : Hid (Below w.heap.size w w1) := Lib.hid (Below.trans (by first | exact HB0.out | exact HB0.out.alloc HB0.out.size _ | exact (HB0.out.alloc HB0.out.size _).alloc (le_al HB0.out.size) _ | exact ((HB0.out.alloc HB0.out.size _).alloc (le_al HB0.out.size) _).alloc (le_al (le_al HB0.out.size)) _) (hb1.mono (by (try simp only [World.size_alloc]); (try simp only [size_setCell']); omega)))
    have HN1 := Lib.hid hb1
    clear hb1 hs1
    go_wp2_with (go_at_call 25; refine (HF1.out _ HB1.out).mono ?_; rintro y w' ⟨rfl, rfl⟩)
    go_ret
    exact ⟨rfl, HB1.out⟩
  | true =>
    rw [hf1] at HF1
    have hlen := of_decide_eq_true hf1
    have HL6 : Hid (l.length ≤ 60) := Lib.hid hlen
    have HMA := Lib.hid (HMA.out (by omega))
    have hw1 : IntKind.i64.wrap ((l.length : Int) + 1) = (l.length : Int) + 1 := wrapNat (l.length + 1) (by omega)
    have hw0 : IntKind.i64.wrap ((l.length : Int) - 1) = (l.length : Int) - 1 := by rw [IntKind.wrap_i64]; omega
    have hne : ¬ ((l.length : Int) + 1 = 0) := by omega
    have hma : (m : Int) ≤ (c1 : Int) := by omega
    clear hf1
    go_enter Tryz.func4, Tryz.ntmps4
    go_wp2_with fail
    refine (shown_any _).mono ?_
    rintro e w1 ⟨rfl, hb1⟩
    obtain ⟨hc1, hf1⟩ := bcell hb1
    have hs1 := hb1.size
    try simp only [World.size_alloc] at hs1
    try simp only [size_setCell'] at hs1
    try have le1_0 : w.heap.size ≤ w1.heap.size := (by omega)
    try have lt1_0 : w.heap.size < w1.heap.size := (by omega)
    have HB1 : Hid (Below w.heap.size w w1) := Lib.hid (Below.trans (by first | exact HB0.out | exact HB0.out.alloc HB0.out.size _ | exact (HB0.out.alloc HB0.out.size _).alloc (le_al HB0.out.size) _ | exact ((HB0.out.alloc HB0.out.size _).alloc (le_al HB0.out.size) _).alloc (le_al (le_al HB0.out.size)) _) (hb1.mono (by (try simp only [World.size_alloc]); (try simp only [size_setCell']); omega)))
    have HN1 := Lib.hid hb1
    clear hb1 hs1
    go_wp2_with (go_at_call 25; refine (HF1.out _ HB1.out).mono ?_; rintro y w' ⟨rfl, rfl⟩)
    go_wp2_with fail
    refine (new_g _).mono ?_
    rintro e w2 ⟨v2, rfl, ⟨gb, mI, mE, rfl, hG2, q1, q2, q3⟩, hb2⟩
    obtain ⟨hc2, hf2⟩ := bcell hb2
    have hs2 := hb2.size
    try simp only [World.size_alloc] at hs2
    try simp only [size_setCell'] at hs2
    try have le2_0 : w.heap.size ≤ w2.heap.size := (by omega)
    try have lt2_0 : w.heap.size < w2.heap.size := (by omega)
    try have le2_1 : w1.heap.size ≤ w2.heap.size := (by omega)
    try have lt2_1 : w1.heap.size < w2.heap.size := (by omega)
    have HB2 : Hid (Below w.heap.size w w2) := Lib.hid (Below.trans (by first | exact HB1.out | exact HB1.out.alloc HB1.out.size _ | exact (HB1.out.alloc HB1.out.size _).alloc (le_al HB1.out.size) _ | exact ((HB1.out.alloc HB1.out.size _).alloc (le_al HB1.out.size) _).alloc (le_al (le_al HB1.out.size)) _ | exact HB0.out | exact HB0.out.alloc HB0.out.size _ | exact (HB0.out.alloc HB0.out.size _).alloc (le_al HB0.out.size) _ | exact ((HB0.out.alloc HB0.out.size _).alloc (le_al HB0.out.size) _).alloc (le_al (le_al HB0.out.size)) _) (hb2.mono (by (try simp only [World.size_alloc]); (try simp only [size_setCell']); omega)))
    have HN2 := Lib.hid hb2
    clear hb2 hs2
    have HG2 := Lib.hid hG2
    have HLT := Lib.hid hG2.lt
    have HMM : Hid (w.heap.size ≤ gb ∧ w.heap.size ≤ mI ∧ w.heap.size ≤ mE) := Lib.hid ⟨Nat.le_trans HB1.out.size q1, Nat.le_trans HB1.out.size q2, Nat.le_trans HB1.out.size q3⟩
    clear hG2 q1 q2 q3
    go_wp2
    go_loopg [7, 8] l.length (fun gg s7 s8 wr => ∃ (i : Nat) (rs : List Raw), s8 = .int .i64 i ∧ i ≤ l.length ∧ l.length - i ≤ gg ∧ Aside (wr.ownsRow w2.heap.size 44 5 s7 i (rs.flatMap Raw.cells)) ∧ Aside (RecsAt w2.heap.size l i rs wr) ∧ Aside (GrAt wr gb mI mE (ran (l.take i))) ∧ Aside (Below w.heap.size w wr ∧ w2.heap.size ≤ wr.heap.size))
    case atStart => exact ⟨0, [], rfl, Nat.zero_le _, by omega, (show Aside _ from World.ownsRow_nil _ _ _ _), (show Aside _ from ⟨rfl, fun j hj => absurd hj (Nat.not_lt_zero _)⟩), (show Aside _ from HG2.out), (show Aside _ from ⟨HB2.out, Nat.le_refl _⟩)⟩
    case round =>
      obtain ⟨i, rs, rfl, hil, hgg, hR, hC, hG, hB⟩ := hrel
      have hi0 : (0 : Int) ≤ (i : Int) := by omega
      have hwi : IntKind.i64.wrap ((i : Int) + 1) = (i : Int) + 1 := wrapNat (i + 1) (by omega)
      obtain ⟨ra, rc, rfl⟩ := row_len hR.out
      by_cases hlt : i < l.length
      · have hlti : (i : Int) < (l.length : Int) := by omega
        obtain ⟨bb, off, rfl, hbl, hcells⟩ := slAt_at (HSL.out wr hB.out.1) hlt
        obtain ⟨x0, x1, x2, x3, x4, x5, x6, x7, x8, x9, x10, x11, x12⟩ := cellsOp hcells i hlt
        have hdo := undo_any gb mI mE (ran (l.take i)) l[i]! wr hG.out (ran_ok _) (ran_thin _) (HNM.out _ (getElem!_mem hlt))
        have HST := Lib.hid (ran_step l i hlt)
        clear hcells
        unfold Op.v at hdo
        generalize l[i]! = x at x0 x1 x2 x3 x4 x5 x6 x7 x8 x9 x10 x11 x12 hdo HST
        generalize hGG : ran (l.take i) = G at hdo HST
        generalize hEE : G.opWhy x = er at hdo
        have HST2 : Hid (diffOf (ran (l.take i)) (ran (l.take (i + 1))) = diffOf G (G.apply x)) := Lib.hid (by rw [HST.out, hGG])
        have HDO := Lib.hid hdo
        clear hdo hEE hGG
        cases ra with
        | none =>
          go_wp2_with (first | (go_at_call 26; refine HDO.out.mono ?_; rintro e w5 ⟨u1, u2, u3, u4, rfl, hr5, hG5, hT5⟩; obtain ⟨b1, d1, rfl⟩ := hr5.sl.1.len; obtain ⟨b2, d2, rfl⟩ := hr5.sl.2.1.len; obtain ⟨b3, d3, rfl⟩ := hr5.sl.2.2.1.len; obtain ⟨b4, d4, rfl⟩ := hr5.sl.2.2.2.len; have HG5 := Lib.hid hG5; have HT5 := Lib.hid hT5; have HR5 := Lib.hid hr5; have HROW := Lib.hid (row_turn hR.out hT5 HLT.out.2.1 HLT.out.2.2); have HREC := Lib.hid (hC.out.to fun _ _ _ _ _ h => rec_turn h hT5 HLT.out.2.1 HLT.out.2.2); clear hr5 hG5 hT5; generalize (diffOf G (G.apply x)).lost.length = n1 at *; generalize (diffOf G (G.apply x)).made.length = n2 at *; generalize (diffOf G (G.apply x)).was.length = n3 at *; generalize (diffOf G (G.apply x)).new.length = n4 at *) | (at_builtin; refine wpList_append_own _ rfl _ _ 42 rfl w2.heap.size 44 i0 _ 5 104 Tryz.underlying42 hinf hz0 hz1 hz2 rfl (by decide) _ _ _ rfl (World.ownsRow.alloc HROW.out _) ⟨w5.heap.size, 0, none⟩ 1 1 (Raw.cells ⟨.slice b1 n1 d1, .slice b2 n2 d2, .slice b3 n3 d3, .slice b4 n4 d4, er⟩) rfl rfl (raw_box (by rw [World.alloc_heap_new]; rfl)) (by intro u hu; simp only [Raw.cells, List.mem_cons, List.not_mem_nil, or_false] at hu; rcases hu with rfl | rfl | rfl | rfl | rfl <;> rfl) (by simp only [maxLen]; omega) (by omega) (by have := HT5.out.size; have := hB.out.2; simp only [World.size_alloc]; omega) ?_; intro v' w6 hown' hgrow _; have HO := Lib.hid hown'; have HGW := Lib.hid hgrow; clear hown' hgrow))
          go_roundg (l.length - (i + 1))
          case measure => omega
          case rel => exact (by
              have h5 := HT5.out.size
              have hb := hB.out
              have hge := fun k (e : Value.ownBlock _ = some k) => rowGe HROW.out e
              have hlt3 := HLT.out
              have hmm := HMM.out
              have hkeep : ∀ k, k < w2.heap.size → w6.heap[k]? = w5.heap[k]? := fun k hk => (HGW.out.block k (by simp only [World.size_alloc]; omega) (fun e => by have := hge k e.symm; omega)).trans (Below.heap_alloc _ _ k (by omega))
              have hkd := row_kind (World.ownsRow.alloc HROW.out (.cells #[.slice b1 n1 d1, .slice b2 n2 d2, .slice b3 n3 d3, .slice b4 n4 d4, .int .i64 er] 44))
              have hto : ∀ B v1 v2 v3 v4 r, RecAt B w5 v1 v2 v3 v4 r → RecAt B w6 v1 v2 v3 v4 r := fun B v1 v2 v3 v4 r h => rec_grown (h.kept fun j _ hj => Below.heap_alloc _ _ j hj) HGW.out hkd
              refine ⟨i + 1, rs ++ [⟨.slice b1 n1 d1, .slice b2 n2 d2, .slice b3 n3 d3, .slice b4 n4 d4, er⟩], by first | rfl | go_num, by omega, by omega, (show Aside _ from by rw [raw_flat]; exact HO.out), (show Aside _ from ?_), (show Aside _ from by rw [HST.out]; exact HG5.out.kept (hkeep _ hlt3.1) (hkeep _ hlt3.2.1) (hkeep _ hlt3.2.2)), (show Aside _ from ⟨?_, ?_⟩)⟩
              · refine (HREC.out.to (hto _)).snoc er ?_
                rw [HST2.out]
                exact (hto _ _ _ _ _ _ HR5.out).mono hb.2
              · have hz := HB2.out.size
                exact hb.1.trans ((own_below HT5.out hmm.2.1 hmm.2.2 hb.1.size).trans (((Below.refl _ w5).alloc (by have := hb.1.size; omega) _).trans (grownBy_below HGW.out (by have := hb.1.size; simp only [World.size_alloc]; omega) (fun k e => by have := hge k e; omega))))
              · have := HGW.out.size; simp only [World.size_alloc] at this; omega)
        | some ra =>
          go_wp2_with (first | (go_at_call 26; refine HDO.out.mono ?_; rintro e w5 ⟨u1, u2, u3, u4, rfl, hr5, hG5, hT5⟩; obtain ⟨b1, d1, rfl⟩ := hr5.sl.1.len; obtain ⟨b2, d2, rfl⟩ := hr5.sl.2.1.len; obtain ⟨b3, d3, rfl⟩ := hr5.sl.2.2.1.len; obtain ⟨b4, d4, rfl⟩ := hr5.sl.2.2.2.len; have HG5 := Lib.hid hG5; have HT5 := Lib.hid hT5; have HR5 := Lib.hid hr5; have HROW := Lib.hid (row_turn hR.out hT5 HLT.out.2.1 HLT.out.2.2); have HREC := Lib.hid (hC.out.to fun _ _ _ _ _ h => rec_turn h hT5 HLT.out.2.1 HLT.out.2.2); clear hr5 hG5 hT5; generalize (diffOf G (G.apply x)).lost.length = n1 at *; generalize (diffOf G (G.apply x)).made.length = n2 at *; generalize (diffOf G (G.apply x)).was.length = n3 at *; generalize (diffOf G (G.apply x)).new.length = n4 at *) | (at_builtin; refine wpList_append_own _ rfl _ _ 42 rfl w2.heap.size 44 i0 _ 5 104 Tryz.underlying42 hinf hz0 hz1 hz2 rfl (by decide) _ _ _ rfl (World.ownsRow.alloc HROW.out _) ⟨w5.heap.size, 0, none⟩ 1 1 (Raw.cells ⟨.slice b1 n1 d1, .slice b2 n2 d2, .slice b3 n3 d3, .slice b4 n4 d4, er⟩) rfl rfl (raw_box (by rw [World.alloc_heap_new]; rfl)) (by intro u hu; simp only [Raw.cells, List.mem_cons, List.not_mem_nil, or_false] at hu; rcases hu with rfl | rfl | rfl | rfl | rfl <;> rfl) (by simp only [maxLen]; omega) (by omega) (by have := HT5.out.size; have := hB.out.2; simp only [World.size_alloc]; omega) ?_; intro v' w6 hown' hgrow _; have HO := Lib.hid hown'; have HGW := Lib.hid hgrow; clear hown' hgrow))
          all_goals (go_roundg (l.length - (i + 1)))
          case measure => omega
          case rel => exact (by
              have h5 := HT5.out.size
              have hb := hB.out
              have hge := fun k (e : Value.ownBlock _ = some k) => rowGe HROW.out e
              have hlt3 := HLT.out
              have hmm := HMM.out
              have hkeep : ∀ k, k < w2.heap.size → w6.heap[k]? = w5.heap[k]? := fun k hk => (HGW.out.block k (by simp only [World.size_alloc]; omega) (fun e => by have := hge k e.symm; omega)).trans (Below.heap_alloc _ _ k (by omega))
              have hkd := row_kind (World.ownsRow.alloc HROW.out (.cells #[.slice b1 n1 d1, .slice b2 n2 d2, .slice b3 n3 d3, .slice b4 n4 d4, .int .i64 er] 44))
              have hto : ∀ B v1 v2 v3 v4 r, RecAt B w5 v1 v2 v3 v4 r → RecAt B w6 v1 v2 v3 v4 r := fun B v1 v2 v3 v4 r h => rec_grown (h.kept fun j _ hj => Below.heap_alloc _ _ j hj) HGW.out hkd
              refine ⟨i + 1, rs ++ [⟨.slice b1 n1 d1, .slice b2 n2 d2, .slice b3 n3 d3, .slice b4 n4 d4, er⟩], by first | rfl | go_num, by omega, by omega, (show Aside _ from by rw [raw_flat]; exact HO.out), (show Aside _ from ?_), (show Aside _ from by rw [HST.out]; exact HG5.out.kept (hkeep _ hlt3.1) (hkeep _ hlt3.2.1) (hkeep _ hlt3.2.2)), (show Aside _ from ⟨?_, ?_⟩)⟩
              · refine (HREC.out.to (hto _)).snoc er ?_
                rw [HST2.out]
                exact (hto _ _ _ _ _ _ HR5.out).mono hb.2
              · have hz := HB2.out.size
                exact hb.1.trans ((own_below HT5.out hmm.2.1 hmm.2.2 hb.1.size).trans (((Below.refl _ w5).alloc (by have := hb.1.size; omega) _).trans (grownBy_below HGW.out (by have := hb.1.size; simp only [World.size_alloc]; omega) (fun k e => by have := hge k e; omega))))
              · have := HGW.out.size; simp only [World.size_alloc] at this; omega)
      · have hlti : ¬ (i : Int) < (l.length : Int) := by omega
        have e : l.take i = l := List.take_of_length_le (by omega)
        obtain rfl : i = l.length := by omega
        rw [e] at hG
        have HGX := Lib.hid hG.out
        have HRX := Lib.hid hR.out
        have HCX := Lib.hid hC.out
        have HBX := Lib.hid hB.out
        obtain ⟨wo, hwo⟩ : ∃ wo, wo = wr := ⟨_, rfl⟩
        subst hwo
        have HBo0 : Hid (Below wo.heap.size wo wo) := Lib.hid (Below.refl _ _)
        clear hG hR hC hB e hlt
        go_wp2_with fail
        refine (copy_g gb mI mE (ran l) wo HGX.out).mono ?_
        rintro e o1 ⟨vq, rfl, ⟨qb, qI, qE, rfl, hQ, p1, p2, p3⟩, hbo1⟩
        obtain ⟨hco1, hfo1⟩ := bcell hbo1
        have hso1 := hbo1.size
        try simp only [World.size_alloc] at hso1
        try simp only [size_setCell'] at hso1
        try have leo1_0 : wo.heap.size ≤ o1.heap.size := (by omega)
        try have lto1_0 : wo.heap.size < o1.heap.size := (by omega)
        have HBo1 : Hid (Below wo.heap.size wo o1) := Lib.hid (Below.trans (by first | exact HBo0.out | exact HBo0.out.alloc HBo0.out.size _ | exact (HBo0.out.alloc HBo0.out.size _).alloc (le_al HBo0.out.size) _ | exact ((HBo0.out.alloc HBo0.out.size _).alloc (le_al HBo0.out.size) _).alloc (le_al (le_al HBo0.out.size)) _) (hbo1.mono (by (try simp only [World.size_alloc]); (try simp only [size_setCell']); omega)))
        have HNo1 := Lib.hid hbo1
        clear hbo1 hso1
        have HQ := Lib.hid hQ
        have HQM : Hid (wo.heap.size ≤ qb ∧ wo.heap.size ≤ qI ∧ wo.heap.size ≤ qE) := Lib.hid ⟨p1, p2, p3⟩
        have HG1 := Lib.hid (HGX.out.below HNo1.out)
        have HR1 := Lib.hid (ownsRow_kept2 HRX.out fun j _ hj => HNo1.out.block j hj)
        have HC1 := Lib.hid (HCX.out.to fun _ _ _ _ _ h => h.kept fun j _ hj => HNo1.out.block j hj)
        clear hQ p1 p2 p3
        go_wp2
        go_loopg [11] (l.length - m) (fun gg s11 wr => ∃ n : Nat, s11 = .int .i64 ((n : Int) - 1) ∧ m ≤ n ∧ n ≤ l.length ∧ n - m ≤ gg ∧ Aside (GrAt wr gb mI mE (ran (l.take n))) ∧ Aside (Turn (Maps2 mI mE) o1 wr))
        case atStart => exact ⟨l.length, rfl, hml, Nat.le_refl _, by omega, (show Aside _ from by rw [List.take_length]; exact HG1.out), (show Aside _ from Turn.refl _ _)⟩
        case round =>
          obtain ⟨n, rfl, hmn, hnl, hgn, hG, hT⟩ := hrel
          by_cases hlt : m < n
          · obtain ⟨q, rfl⟩ : ∃ q, n = q + 1 := ⟨n - 1, by omega⟩
            have eq1 : ((q + 1 : Nat) : Int) - 1 = (q : Int) := by omega
            rw [eq1]
            clear eq1
            have hmq : m ≤ q := by omega
            have hq0 : (0 : Int) ≤ (q : Int) := by omega
            have hqm : decide ((q : Int) ≥ (m : Int)) = true := by rw [decide_eq_true_eq]; omega
            have hqm2 : decide (m ≤ q) = true := by rw [decide_eq_true_eq]; omega
            have hql : (q : Int) < (l.length : Int) := by omega
            have hwq : IntKind.i64.wrap ((q : Int) - 1) = (q : Int) - 1 := by rw [IntKind.wrap_i64]; omega
            have hrow := row_turn HR1.out hT.out HLT.out.2.1 HLT.out.2.2
            have hrl : rs.length = l.length := HC1.out.1
            have hsr : SlAt wr 5 Raw.cells (.slice ra l.length rc) rs := SlAt.of_row (fun _ => rfl) (by rw [hrl]; exact hrow)
            obtain ⟨rb, ro, rfl, _, hrc⟩ := slAt_at hsr (show q < rs.length by omega)
            obtain ⟨hrec, p1, p2, p3, p4, n1, n2, n3, n4, k1, k2, k3, k4, ea, eb, ec, ed⟩ := HC1.out.2 q (by omega)
            have y0 := hrc q (by omega) 0 _ rfl
            have y1 := hrc q (by omega) 1 _ rfl
            have y2 := hrc q (by omega) 2 _ rfl
            have y3 := hrc q (by omega) 3 _ rfl
            have y4 := hrc q (by omega) 4 _ rfl
            rw [Nat.add_zero] at y0
            rw [ea] at y0 hrec
            rw [eb] at y1 hrec
            rw [ec] at y2 hrec
            rw [ed] at y3 hrec
            have hsm := diff_small (ran_ok (l.take q)) (ran_ok (l.take (q + 1)))
            have hbk := back_any gb mI mE w2.heap.size (ran (l.take (q + 1))) _ _ _ _ _ rs[q]!.e wr hG.out (ran_ok _) (rec_turn hrec hT.out HLT.out.2.1 HLT.out.2.2) HLT.out.2.1 HLT.out.2.2 hsm.1 hsm.2
            rw [back_step l q (by omega)] at hbk
            have HBK := Lib.hid hbk
            clear hrow hsr hrc hrec ea eb ec ed hsm hbk hlt
            generalize rs[q]!.e = er at *
            go_wp2_with (go_at_call 28; refine HBK.out.mono ?_; rintro e w5 ⟨rfl, hG5, hT5⟩; have HG5 := Lib.hid hG5; have HT5 := Lib.hid hT5; clear hG5 hT5)
            go_roundg (q - m)
            case measure => omega
            case rel => exact ⟨q, by first | rfl | go_num, by omega, by omega, by omega, (show Aside _ from HG5.out), (show Aside _ from hT.out.trans HT5.out)⟩
          · obtain rfl : n = m := by omega
            have hqm : decide ((n : Int) - 1 ≥ (n : Int)) = false := by rw [decide_eq_false_iff_not]; omega
            have hqm2 : decide ((n : Int) ≤ (n : Int) - 1) = false := by rw [decide_eq_false_iff_not]; omega
            have HGP := Lib.hid hG.out
            have HQP : Hid (GrAt wr qb qI qE (ran l)) := Lib.hid (HQ.out.turn hT.out (by have := HQM.out; have := HGX.out.lt; rintro (e | e) <;> omega) (by have := HQM.out; have := HGX.out.lt; rintro (e | e) <;> omega) (by have := HQM.out; have := HGX.out.lt; rintro (e | e) <;> omega))
            have hbp : Below w.heap.size w wr := (HBX.out.1.trans (HBo1.out.mono HBX.out.1.size)).trans (own_below hT.out HMM.out.2.1 HMM.out.2.2 (Nat.le_trans HBX.out.1.size HBo1.out.size))
            have HBP := Lib.hid hbp
            obtain ⟨wp, hwp⟩ : ∃ wp, wp = wr := ⟨_, rfl⟩
            subst hwp
            have HMP : Hid (∀ W, Below wp.heap.size wp W → Calls Tryz.prog 30 #[.slice a1 n c1] W (MadeGr W (ran (l.take n)))) := Lib.hid fun W hW => HMA.out W (HBP.out.trans (hW.mono HBP.out.size))
            have HBp0 : Hid (Below wp.heap.size wp wp) := Lib.hid (Below.refl _ _)
            clear hG hT hbp hlt
            go_wp2_with fail
            refine (HMP.out _ (by first | exact HBp0.out | exact HBp0.out.alloc HBp0.out.size _ | exact (HBp0.out.alloc HBp0.out.size _).alloc (le_al HBp0.out.size) _ | exact ((HBp0.out.alloc HBp0.out.size _).alloc (le_al HBp0.out.size) _).alloc (le_al (le_al HBp0.out.size)) _)).mono ?_
            rintro e p1 ⟨vm, rfl, ⟨kb, kI, kE, rfl, hK, _, _, _⟩, hbp1⟩
            obtain ⟨hcp1, hfp1⟩ := bcell hbp1
            have hsp1 := hbp1.size
            try simp only [World.size_alloc] at hsp1
            try simp only [size_setCell'] at hsp1
            try have lep1_0 : wp.heap.size ≤ p1.heap.size := (by omega)
            try have ltp1_0 : wp.heap.size < p1.heap.size := (by omega)
            have HBp1 : Hid (Below wp.heap.size wp p1) := Lib.hid (Below.trans (by first | exact HBp0.out | exact HBp0.out.alloc HBp0.out.size _ | exact (HBp0.out.alloc HBp0.out.size _).alloc (le_al HBp0.out.size) _ | exact ((HBp0.out.alloc HBp0.out.size _).alloc (le_al HBp0.out.size) _).alloc (le_al (le_al HBp0.out.size)) _) (hbp1.mono (by (try simp only [World.size_alloc]); (try simp only [size_setCell']); omega)))
            have HNp1 := Lib.hid hbp1
            clear hbp1 hsp1
            have HK := Lib.hid hK
            have HGP1 := Lib.hid (HGP.out.below HNp1.out)
            have HQP1 := Lib.hid (HQP.out.below HNp1.out)
            clear hK
            go_wp2_with fail
            refine (same_any gb kb (ran (l.take n)) p1 (ran_ok _) (HGP1.out.reads (ran_ok _) (by have := (ran_ok (l.take n)).few; omega)) (HK.out.reads (ran_ok _) (by have := (ran_ok (l.take n)).few; omega))).mono ?_
            rintro e p2 ⟨rfl, hbp2⟩
            obtain ⟨hcp2, hfp2⟩ := bcell hbp2
            have hsp2 := hbp2.size
            try simp only [World.size_alloc] at hsp2
            try simp only [size_setCell'] at hsp2
            try have lep2_0 : wp.heap.size ≤ p2.heap.size := (by omega)
            try have ltp2_0 : wp.heap.size < p2.heap.size := (by omega)
            try have lep2_1 : p1.heap.size ≤ p2.heap.size := (by omega)
            try have ltp2_1 : p1.heap.size < p2.heap.size := (by omega)
            have HBp2 : Hid (Below wp.heap.size wp p2) := Lib.hid (Below.trans (by first | exact HBp1.out | exact HBp1.out.alloc HBp1.out.size _ | exact (HBp1.out.alloc HBp1.out.size _).alloc (le_al HBp1.out.size) _ | exact ((HBp1.out.alloc HBp1.out.size _).alloc (le_al HBp1.out.size) _).alloc (le_al (le_al HBp1.out.size)) _ | exact HBp0.out | exact HBp0.out.alloc HBp0.out.size _ | exact (HBp0.out.alloc HBp0.out.size _).alloc (le_al HBp0.out.size) _ | exact ((HBp0.out.alloc HBp0.out.size _).alloc (le_al HBp0.out.size) _).alloc (le_al (le_al HBp0.out.size)) _) (hbp2.mono (by (try simp only [World.size_alloc]); (try simp only [size_setCell']); omega)))
            have HNp2 := Lib.hid hbp2
            clear hbp2 hsp2
            have HGP2 := Lib.hid (HGP1.out.below HNp2.out)
            have HQP2 := Lib.hid (HQP1.out.below HNp2.out)
            go_wp2
            go_loopg [12] (l.length - n) (fun gg s12 wr => ∃ i : Nat, s12 = .int .i64 i ∧ n ≤ i ∧ i ≤ l.length ∧ l.length - i ≤ gg ∧ Aside (GrAt wr gb mI mE (ran (l.take i))) ∧ Aside (Turn (Maps2 mI mE) p2 wr))
            case atStart => exact ⟨n, rfl, Nat.le_refl _, hnl, by omega, (show Aside _ from HGP2.out), (show Aside _ from Turn.refl _ _)⟩
            case round =>
              obtain ⟨i, rfl, hni, hil, hgi, hG, hT⟩ := hrel
              have hi0 : (0 : Int) ≤ (i : Int) := by omega
              have hwi : IntKind.i64.wrap ((i : Int) + 1) = (i : Int) + 1 := wrapNat (i + 1) (by omega)
              have hbr : Below w.heap.size w wr := (HBP.out.trans (HBp2.out.mono HBP.out.size)).trans (own_below hT.out HMM.out.2.1 HMM.out.2.2 (Nat.le_trans HBP.out.size HBp2.out.size))
              by_cases hlt : i < l.length
              · have hlti : (i : Int) < (l.length : Int) := by omega
                obtain ⟨bb, off, rfl, hbl, hcells⟩ := slAt_at (HSL.out wr hbr) hlt
                obtain ⟨x0, x1, x2, x3, x4, x5, x6, x7, x8, x9, x10, x11, x12⟩ := cellsOp hcells i hlt
                have hdo := undo_any gb mI mE (ran (l.take i)) l[i]! wr hG.out (ran_ok _) (ran_thin _) (HNM.out _ (getElem!_mem hlt))
                have HST := Lib.hid (ran_step l i hlt)
                clear hcells hbr hlt
                unfold Op.v at hdo
                generalize l[i]! = x at x0 x1 x2 x3 x4 x5 x6 x7 x8 x9 x10 x11 x12 hdo HST
                generalize ran (l.take i) = G at hdo HST
                have HDO := Lib.hid hdo
                clear hdo
                go_wp2_with (go_at_call 26; refine HDO.out.mono ?_; rintro e w5 ⟨u1, u2, u3, u4, rfl, _, hG5, hT5⟩; have HG5 := Lib.hid hG5; have HT5 := Lib.hid hT5; clear hG5 hT5)
                go_roundg (l.length - (i + 1))
                case measure => omega
                case rel => exact ⟨i + 1, by first | rfl | go_num, by omega, by omega, by omega, (show Aside _ from by rw [HST.out]; exact HG5.out), (show Aside _ from hT.out.trans HT5.out)⟩
              · have hlti : ¬ (i : Int) < (l.length : Int) := by omega
                have HGR : Hid (GrAt wr gb mI mE (ran l)) := Lib.hid (by have := hG.out; rw [List.take_of_length_le (by omega)] at this; exact this)
                have HQR : Hid (GrAt wr qb qI qE (ran l)) := Lib.hid (HQP2.out.turn hT.out (by have := HQM.out; have := HGX.out.lt; rintro (e | e) <;> omega) (by have := HQM.out; have := HGX.out.lt; rintro (e | e) <;> omega) (by have := HQM.out; have := HGX.out.lt; rintro (e | e) <;> omega))
                have HBR := Lib.hid hbr
                clear hG hT hbr hlt
                go_wp2_with fail
                refine (same_any gb qb (ran l) wr (ran_ok _) (HGR.out.reads (ran_ok _) (by have := (ran_ok l).few; omega)) (HQR.out.reads (ran_ok _) (by have := (ran_ok l).few; omega))).mono ?_
                rintro e w9 ⟨rfl, hb9⟩
                have HB9 := Lib.hid hb9
                clear hb9
                go_wp2
                go_ret
                exact ⟨rfl, HBR.out.trans (HB9.out.mono HBR.out.size)⟩
end Go.Proofs.YtlokljaeknmdpaaGreat.L12
