/-
  The audit's reach; condition: at most 1000 entries.
-/
import Derived.Test.YtlokljaeknmdpaaGreatKAudE
import Derived.Test.YtlokljaeknmdpaaGreatQSeen
namespace Go.Proofs.YtlokljaeknmdpaaGreat
open Go.RowKit Go.Shelf

/-- between two rounds -/
structure ReachAt (w : World) (g : Value) (n : List Ino) (e : List Ent) (W : World) (kv : List (St × Bool)) : Prop where
  below : Below w.heap.size w W
  box : GBox W w.heap.size g
  map : MapAt W (w.heap.size + 1) St.v boolV kv
  lt : w.heap.size + 1 < W.heap.size
  seen : SeenOk n e kv

theorem ReachAt.next {w W W' : World} {g : Value} {n : List Ino} {e : List Ent} {kv : List (St × Bool)} (h : ReachAt w g n e W kv) (hb : Below W.heap.size W W') : ReachAt w g n e W' kv :=
  ⟨h.below.trans (hb.mono h.below.size), h.box.below hb, h.map.below hb h.lt, Nat.lt_of_lt_of_le h.lt hb.size, h.seen⟩

theorem ReachAt.put {w W W' : World} {g : Value} {n : List Ino} {e : List Ent} {kv kv' : List (St × Bool)} (h : ReachAt w g n e W kv) (hp : MapPut W (w.heap.size + 1) W') (hm : MapAt W' (w.heap.size + 1) St.v boolV kv') (hs : SeenOk n e kv') : ReachAt w g n e W' kv' := by
  refine ⟨?_, ?_, hm, by rw [hp.size]; exact h.lt, hs⟩
  · obtain ⟨es, ck, es0, ck0, _, rfl⟩ := hp
    exact ⟨h.below.os, h.below.tape, h.below.output, by simpa using h.below.size, fun k hk => (World.putObj_heap_other (by omega)).trans (h.below.block k hk)⟩
  · obtain ⟨vn, ve, kb, lb, rfl, g0, g1, g2, g3, hl⟩ := h.box
    exact ⟨vn, ve, kb, lb, rfl, (hp.cell _).trans g0, (hp.cell _).trans g1, (hp.cell _).trans g2, (hp.cell _).trans g3, by rw [hp.size]; exact hl⟩

theorem ReachAt.look {w W : World} {g : Value} {n : List Ino} {e : List Ent} {kv : List (St × Bool)} (h : ReachAt w g n e W kv) (id : St) :
    (Instr.lookup 151 (.map (some (w.heap.size + 1))) (.agg #[.int .i64 id.t, .int .i64 id.r]) false).run Tryz.prog W = .ok (.bool (hasK kv id)) W := by
  have := (run_lookup_kv (w := W) keySt Tryz.underlying151 Tryz.zeroValue4 h.map id).2
  rw [getD_lookB] at this
  exact this

theorem GBox.cells {w : World} {B : Nat} {vn ve : Value} {kb lb : Nat} (h : GBox w B (.agg #[vn, ve, .map (some kb), .map (some lb)])) :
    w.cell? ⟨B, 0, none⟩ = some vn ∧ w.cell? ⟨B, 1, none⟩ = some ve ∧ w.cell? ⟨B, 2, none⟩ = some (.map (some kb)) ∧ w.cell? ⟨B, 3, none⟩ = some (.map (some lb)) ∧ B < w.heap.size := by
  obtain ⟨vn', ve', kb', lb', hg, g0, g1, g2, g3, hl⟩ := h
  simp at hg
  obtain ⟨rfl, rfl, rfl, rfl⟩ := hg
  exact ⟨g0, g1, g2, g3, hl⟩

theorem mapAt_new {K V : Type} (w : World) (enc : K → Value) (encV : V → Value) : MapAt (w.alloc (.map #[] 0)) w.heap.size enc encV [] :=
  ⟨#[], 0, World.alloc_heap_new w _, rfl, by simp [BornOk]⟩

theorem seenOk_nil {n : List Ino} {e : List Ent} (h : (kindOf n ⟨0, 0⟩).isSome = false) : SeenOk n e [] :=
  ⟨by simp, by simp, by simp [hasK, getKV], by simp [h], by simp⟩
theorem seenOk_root {n : List Ino} {e : List Ent} (h : (kindOf n ⟨0, 0⟩).isSome = true) : SeenOk n e (putKV ⟨0, 0⟩ true []) := by
  have hg : ∀ id, hasK (putKV (⟨0, 0⟩ : St) true []) id = true → id = ⟨0, 0⟩ := by
    intro id hid
    simp only [hasK, putKV, getKV] at hid
    by_cases e : id = ⟨0, 0⟩
    · exact e
    · rw [if_neg e] at hid; cases hid
  exact ⟨by simp [putKV], by simp [putKV], fun id hid => by rw [hg id hid]; exact .root h, fun _ => by simp [hasK, putKV, getKV], by simp [putKV]⟩

set_option maxRecDepth 100000 in
set_option maxHeartbeats 4000000 in
theorem reach_any (g : Value) (n : List Ino) (e : List Ent) (w : World) (h : AuditAt w g n e) (hz : e.length ≤ 1000) :
    Calls Tryz.prog 124 #[g] w fun x w' => ∃ sb kv, x = .returned (.map (some sb)) ∧ w.heap.size ≤ sb ∧ sb < w'.heap.size ∧ MapAt w' sb St.v boolV kv ∧ SeenOk n e kv ∧ SeenAll n e kv ∧ Below w.heap.size w w' := by
  have hA := h
  obtain ⟨vn, ve, kb, lb, kk, kl, rfl, hn, he, _, _, _, _, _, _⟩ := h.ex
  have HA : Hid (∀ W, Below w.heap.size w W → AuditAt W (.agg #[vn, ve, .map (some kb), .map (some lb)]) n e) := Lib.hid fun W hW => hA.below hW
  have HE : Hid (∀ W, Below w.heap.size w W → SlAt W 5 Ent.cells ve e) := Lib.hid fun W hW => he.below hW
  have hlen := he.len
  clear hn he hA h
  go_enter Tryz.func124, Tryz.ntmps124
  obtain ⟨ea, ec, rfl⟩ := hlen
  have hmm := @run_makeMap Tryz.prog
  obtain ⟨WA, hWA⟩ : ∃ WA, WA = (w.alloc (.cells #[vn, .slice ea e.length ec, .map (some kb), .map (some lb)] 98)).alloc (.map #[] 0) := ⟨_, rfl⟩
  have hbA : Below w.heap.size w WA := by rw [hWA]; exact ((Below.refl _ w).alloc (Nat.le_refl _) _).alloc (by simp) _
  have hszA : WA.heap.size = w.heap.size + 1 + 1 := by rw [hWA]; simp
  have hboxA : GBox WA w.heap.size (.agg #[vn, .slice ea e.length ec, .map (some kb), .map (some lb)]) := by
    rw [hWA]; exact (boxed w vn (.slice ea e.length ec) kb lb).below ((Below.refl _ _).alloc (Nat.le_refl _) _)
  have hmapA : MapAt WA (w.heap.size + 1) St.v boolV [] := by
    rw [hWA]; have := mapAt_new (w.alloc (.cells #[vn, .slice ea e.length ec, .map (some kb), .map (some lb)] 98)) St.v boolV; rw [World.size_alloc] at this; exact this
  have ht := there_any _ n e ⟨0, 0⟩ WA (HA.out WA hbA)
  change Calls Tryz.prog 121 #[_, .agg #[.int .i64 0, .int .i64 0]] _ _ at ht
  cases hk0 : (kindOf n ⟨0, 0⟩).isSome with
  | true =>
    have hR : ∀ w', Below WA.heap.size WA w' → ∃ w3, (Instr.mapUpdate 151 (.map (some (w.heap.size + 1))) (.agg #[.int .i64 0, .int .i64 0]) (.bool true)).run Tryz.prog w' = .ok () w3 ∧ ReachAt w (.agg #[vn, .slice ea e.length ec, .map (some kb), .map (some lb)]) n e w3 (putKV ⟨0, 0⟩ true []) := by
      intro w' hb
      obtain ⟨w3, hu, hp, hm⟩ := run_update_kv (encV := boolV) keySt Tryz.underlying151 (hmapA.below hb (by omega)) ⟨0, 0⟩ true
      have hR0 : Below w.heap.size w w' := hbA.trans (hb.mono hbA.size)
      refine ⟨w3, hu, ?_, ?_, hm, by rw [hp.size]; have := hb.size; omega, seenOk_root hk0⟩
      · obtain ⟨es, ck, es0, ck0, _, rfl⟩ := hp
        exact ⟨hR0.os, hR0.tape, hR0.output, by simpa using hR0.size, fun k hk => (World.putObj_heap_other (by omega)).trans (hR0.block k hk)⟩
      · obtain ⟨vn', ve', kb', lb', hg, g0, g1, g2, g3, hl⟩ := hboxA.below hb
        exact ⟨vn', ve', kb', lb', hg, (hp.cell _).trans g0, (hp.cell _).trans g1, (hp.cell _).trans g2, (hp.cell _).trans g3, by rw [hp.size]; exact hl⟩
    have HR := Lib.hid hR
    rw [hk0, hWA] at ht
    clear hR hbA hszA hboxA hmapA
    go_wp2_with (go_at_call 121; refine ht.mono ?_; rintro x w' ⟨rfl, hN⟩; obtain ⟨w3, hu, hR3⟩ := HR.out w' (by rw [hWA]; exact hN); have HR3 := Lib.hid hR3; clear hN hR3)
    clear hu ht hWA HR
    generalize putKV (⟨0, 0⟩ : St) true [] = kv at HR3
    obtain ⟨sb, hsb⟩ : ∃ sb, sb = w.heap.size + 1 := ⟨_, rfl⟩
    go_loopg [4] (e.length + 3) (fun gg s4 wr => ∃ (more : Bool) (kv : List (St × Bool)), s4 = .bool more ∧ (if more then e.length + 2 - kv.length else 0) ≤ gg ∧ Aside (ReachAt w (.agg #[vn, .slice ea e.length ec, .map (some kb), .map (some lb)]) n e wr kv) ∧ Aside (more = false → SeenAll n e kv))
    case atStart => exact ⟨true, kv, rfl, by simp; omega, HR3.out, fun h => by cases h⟩
    case round =>
      obtain ⟨more, kv, rfl, hm, hR, hcl0⟩ := hrel
      cases more with
      | false =>
        go_wp2
        go_ret
        exact ⟨w.heap.size + 1, rfl, by omega, hR.out.lt, kv, hR.out.map, hR.out.seen, hcl0.out (by first | rfl | trivial), hR.out.below⟩
      | true =>
        obtain ⟨c0, c1, c2, c3, hBl⟩ := hR.out.box.cells
        have HBl := Lib.hid hBl
        clear hBl
        go_wp2
        go_loopg [4, 17] e.length (fun gg s4 s17 wr' => ∃ (m : Bool) (k : Nat) (kv' : List (St × Bool)), s4 = .bool m ∧ s17 = .int .i64 k ∧ k ≤ e.length ∧ e.length - k ≤ gg ∧ Aside (ReachAt w (.agg #[vn, .slice ea e.length ec, .map (some kb), .map (some lb)]) n e wr' kv') ∧
          Aside (m = false → kv' = kv ∧ ∀ j, j < k → hasK kv e[j]!.at_ = true → kindOf n e[j]!.at_ = some 1 → (kindOf n e[j]!.ino).isSome = true → hasK kv e[j]!.ino = true) ∧ Aside (m = true → kv.length < kv'.length))
        case atStart => exact ⟨false, 0, kv, rfl, rfl, Nat.zero_le _, by omega, hR, (show Aside _ from fun _ => ⟨rfl, fun j hj => absurd hj (Nat.not_lt_zero _)⟩), (show Aside _ from fun h => by cases h)⟩
        case round =>
          obtain ⟨m, k, kv', rfl, rfl, hk, hg, hRk, hcl, hmt⟩ := hrel
          have HM : Hid (kv.length ≤ kv'.length) := Lib.hid (by cases m with | false => rw [(hcl.out rfl).1]; exact Nat.le_refl _ | true => exact Nat.le_of_lt (hmt.out rfl))
          by_cases hlt : k < e.length
          · have hlti : (k : Int) < (e.length : Int) := by omega
            have hk0 : (0 : Int) ≤ (k : Int) := by omega
            obtain ⟨b, off, hea, hbl, hcells⟩ : ∃ b off, ea = some ⟨b, off, none⟩ ∧ b < wr.heap.size ∧ ∀ j, j < e.length → ∀ i u, (Ent.cells e[j]!)[i]? = some u → wr.cell? ⟨b, off + j * 5 + i, none⟩ = some u := by
              rcases HE.out wr hRk.out.below with ⟨_, _, _, h0⟩ | ⟨b, off, c', h0, _, _, h3, h4⟩
              · rw [h0] at hlt; exact absurd hlt (Nat.not_lt_zero _)
              · simp at h0; exact ⟨b, off, h0.1, h3, h4⟩
            subst hea
            obtain ⟨x0, x1, x2, x3, x4⟩ := cellsEnt hcells k hlt
            have hxm : e[k]! ∈ e := by rw [getElem!_pos e k hlt]; exact List.getElem_mem _
            clear hcells
            generalize hX : e[k]! = x at *
            have HXe := Lib.hid hX
            have HXM := Lib.hid hxm
            clear hX hxm
            have HBL := Lib.hid hbl
            clear hbl
            clear c0 c1 c2 c3
            have hbx : Below wr.heap.size wr (wr.alloc (.cells #[.int .i64 x.at_.t, .int .i64 x.at_.r, .string x.name, .int .i64 x.ino.t, .int .i64 x.ino.r] 34)) := (Below.refl _ wr).alloc (Nat.le_refl _) _
            obtain ⟨c0, c1, c2, c3, hBl⟩ := (hRk.out.next hbx).box.cells
            have HBX := Lib.hid hbx
            have HX : Hid (∀ w1, Below (wr.alloc (.cells #[.int .i64 x.at_.t, .int .i64 x.at_.r, .string x.name, .int .i64 x.ino.t, .int .i64 x.ino.r] 34)).heap.size (wr.alloc (.cells #[.int .i64 x.at_.t, .int .i64 x.at_.r, .string x.name, .int .i64 x.ino.t, .int .i64 x.ino.r] 34)) w1 → w1.cell? ⟨w.heap.size, 0, none⟩ = some vn ∧ w1.cell? ⟨w.heap.size, 1, none⟩ = some (.slice (some ⟨b, off, none⟩) e.length ec) ∧ w1.cell? ⟨w.heap.size, 2, none⟩ = some (.map (some kb)) ∧ w1.cell? ⟨w.heap.size, 3, none⟩ = some (.map (some lb)) ∧
                w1.cell? ⟨wr.heap.size, 0, none⟩ = some (.int .i64 x.at_.t) ∧ w1.cell? ⟨wr.heap.size, 1, none⟩ = some (.int .i64 x.at_.r) ∧ w1.cell? ⟨wr.heap.size, 2, none⟩ = some (.string x.name) ∧ w1.cell? ⟨wr.heap.size, 3, none⟩ = some (.int .i64 x.ino.t) ∧ w1.cell? ⟨wr.heap.size, 4, none⟩ = some (.int .i64 x.ino.r) ∧ Below wr.heap.size wr w1) := Lib.hid fun w1 hb => by
              have h1 := after1 hb
              obtain ⟨g0, g1, g2, g3, _⟩ := (hRk.out.box.below h1.2).cells
              exact ⟨g0, g1, g2, g3, h1.1 0 _ rfl, h1.1 1 _ rfl, h1.1 2 _ rfl, h1.1 3 _ rfl, h1.1 4 _ rfl, h1.2⟩
            have hl1 := (hRk.out.next hbx).look x.at_
            have hd := directory_any _ n e x.at_ (wr.alloc (.cells #[.int .i64 x.at_.t, .int .i64 x.at_.r, .string x.name, .int .i64 x.ino.t, .int .i64 x.ino.r] 34)) (HA.out _ (hRk.out.next hbx).below)
            change Calls Tryz.prog 115 #[_, .agg #[.int .i64 x.at_.t, .int .i64 x.at_.r]] _ _ at hd
            have HT : Hid (∀ W, Below wr.heap.size wr W → Calls Tryz.prog 121 #[.agg #[vn, .slice (some ⟨b, off, none⟩) e.length ec, .map (some kb), .map (some lb)], .agg #[.int .i64 x.ino.t, .int .i64 x.ino.r]] W fun y w' => y = .returned (.bool (kindOf n x.ino).isSome) ∧ Below W.heap.size W w') := Lib.hid fun W hW => there_any _ n e x.ino W (HA.out _ (hRk.out.next hW).below)
            have HL : Hid (∀ W, Below wr.heap.size wr W → (Instr.lookup 151 (.map (some (w.heap.size + 1))) (.agg #[.int .i64 x.ino.t, .int .i64 x.ino.r]) false).run Tryz.prog W = .ok (.bool (hasK kv' x.ino)) W) := Lib.hid fun W hW => (hRk.out.next hW).look x.ino
            have HU : Hid (hasK kv' x.at_ = true → decide (kindOf n x.at_ = some 1) = true → (kindOf n x.ino).isSome = true → hasK kv' x.ino = false → ∀ W, Below wr.heap.size wr W → ∃ w3, (Instr.mapUpdate 151 (.map (some (w.heap.size + 1))) (.agg #[.int .i64 x.ino.t, .int .i64 x.ino.r]) (.bool true)).run Tryz.prog W = .ok () w3 ∧
                (ReachAt w (.agg #[vn, .slice (some ⟨b, off, none⟩) e.length ec, .map (some kb), .map (some lb)]) n e w3 (putKV x.ino true kv') ∧ (putKV x.ino true kv').length = kv'.length + 1)) := Lib.hid fun q1 q2 q3 q4 W hW => by
              obtain ⟨w3, hu, hp, hm3⟩ := run_update_kv (encV := boolV) keySt Tryz.underlying151 (hRk.out.next hW).map x.ino true
              have hp2 := hRk.out.seen.put x HXM.out q1 (of_decide_eq_true q2) q3 q4
              exact ⟨w3, hu, (hRk.out.next hW).put hp hm3 hp2.1, hp2.2⟩
            clear hBl hbx
            cases hb1 : hasK kv' x.at_ with
            | false =>
              rw [hb1] at hl1
              go_wp2
              go_roundg (e.length - (k + 1))
              case measure => omega
              case rel =>
                exact ⟨m, k + 1, kv', rfl, by first | rfl | go_num, by omega, by omega, (show Aside _ from hRk.out.next HBX.out), (show Aside _ from fun hf => ⟨(hcl.out hf).1, fun j hj => by rcases Nat.lt_succ_iff_lt_or_eq.1 hj with hj | hj; exact (hcl.out hf).2 j hj; subst hj; rw [HXe.out, ← (hcl.out hf).1]; intro q1 q2 q3; rw [hb1] at q1; cases q1⟩), hmt⟩
            | true =>
              rw [hb1] at hl1
              cases hb2 : decide (kindOf n x.at_ = some 1) with
              | false =>
                rw [hb2] at hd
                go_wp2_with (first
                  | (go_at_call 115; refine hd.mono ?_; rintro y w1 ⟨rfl, hN⟩; obtain ⟨c0', c1', c2', c3', d0', d1', d2', d3', d4', HB1⟩ := HX.out w1 hN; have HB1' := Lib.hid HB1; have HW1 := Lib.hid hN; clear HB1 hN))
                go_roundg (e.length - (k + 1))
                case measure => omega
                case rel =>
                  exact ⟨m, k + 1, kv', rfl, by first | rfl | go_num, by omega, by omega, (show Aside _ from hRk.out.next HB1'.out), (show Aside _ from fun hf => ⟨(hcl.out hf).1, fun j hj => by rcases Nat.lt_succ_iff_lt_or_eq.1 hj with hj | hj; exact (hcl.out hf).2 j hj; subst hj; rw [HXe.out, ← (hcl.out hf).1]; intro q1 q2 q3; rw [decide_eq_true q2] at hb2; cases hb2⟩), hmt⟩
              | true =>
                rw [hb2] at hd
                cases hb3 : (kindOf n x.ino).isSome with
                | false =>
                  rw [hb3] at HT
                  go_wp2_with (first
                    | (go_at_call 115; refine hd.mono ?_; rintro y w1 ⟨rfl, hN⟩; obtain ⟨c0', c1', c2', c3', d0', d1', d2', d3', d4', HB1⟩ := HX.out w1 hN; have HB1' := Lib.hid HB1; have HW1 := Lib.hid hN; clear HB1 hN)
                    | (go_at_call 121; refine (HT.out w1 HB1'.out).mono ?_; rintro y w2 ⟨rfl, hN⟩; obtain ⟨c0'', c1'', c2'', c3'', d0'', d1'', d2'', d3'', d4'', HB2⟩ := HX.out w2 (HW1.out.trans (hN.mono HW1.out.size)); have hl2 := HL.out w2 HB2; have HB2' := Lib.hid HB2; clear HB2 hN))
                  go_roundg (e.length - (k + 1))
                  case measure => omega
                  case rel =>
                    exact ⟨m, k + 1, kv', rfl, by first | rfl | go_num, by omega, by omega, (show Aside _ from hRk.out.next HB2'.out), (show Aside _ from fun hf => ⟨(hcl.out hf).1, fun j hj => by rcases Nat.lt_succ_iff_lt_or_eq.1 hj with hj | hj; exact (hcl.out hf).2 j hj; subst hj; rw [HXe.out, ← (hcl.out hf).1]; intro q1 q2 q3; rw [q3] at hb3; cases hb3⟩), hmt⟩
                | true =>
                  rw [hb3] at HT
                  cases hb4 : hasK kv' x.ino with
                  | true =>
                    rw [hb4] at HL
                    go_wp2_with (first
                      | (go_at_call 115; refine hd.mono ?_; rintro y w1 ⟨rfl, hN⟩; obtain ⟨c0', c1', c2', c3', d0', d1', d2', d3', d4', HB1⟩ := HX.out w1 hN; have HB1' := Lib.hid HB1; have HW1 := Lib.hid hN; clear HB1 hN)
                      | (go_at_call 121; refine (HT.out w1 HB1'.out).mono ?_; rintro y w2 ⟨rfl, hN⟩; obtain ⟨c0'', c1'', c2'', c3'', d0'', d1'', d2'', d3'', d4'', HB2⟩ := HX.out w2 (HW1.out.trans (hN.mono HW1.out.size)); have hl2 := HL.out w2 HB2; have HB2' := Lib.hid HB2; clear HB2 hN))
                    go_roundg (e.length - (k + 1))
                    case measure => omega
                    case rel =>
                      exact ⟨m, k + 1, kv', rfl, by first | rfl | go_num, by omega, by omega, (show Aside _ from hRk.out.next HB2'.out), (show Aside _ from fun hf => ⟨(hcl.out hf).1, fun j hj => by rcases Nat.lt_succ_iff_lt_or_eq.1 hj with hj | hj; exact (hcl.out hf).2 j hj; subst hj; rw [HXe.out, ← (hcl.out hf).1]; intro q1 q2 q3; exact hb4⟩), hmt⟩
                  | false =>
                    rw [hb4] at HL
                    have HU2 := Lib.hid (HU.out hb1 hb2 hb3 hb4)
                    go_wp2_with (first
                      | (go_at_call 115; refine hd.mono ?_; rintro y w1 ⟨rfl, hN⟩; obtain ⟨c0', c1', c2', c3', d0', d1', d2', d3', d4', HB1⟩ := HX.out w1 hN; have HB1' := Lib.hid HB1; have HW1 := Lib.hid hN; clear HB1 hN)
                      | (go_at_call 121; refine (HT.out w1 HB1'.out).mono ?_; rintro y w2 ⟨rfl, hN⟩; obtain ⟨c0'', c1'', c2'', c3'', d0'', d1'', d2'', d3'', d4'', HB2⟩ := HX.out w2 (HW1.out.trans (hN.mono HW1.out.size)); have hl2 := HL.out w2 HB2; obtain ⟨w3, hu, hR3⟩ := HU2.out w2 HB2; have HR4 := Lib.hid hR3; clear hR3; have HB2' := Lib.hid HB2; clear HB2 hN))
                    go_roundg (e.length - (k + 1))
                    case measure => omega
                    case rel =>
                      exact ⟨true, k + 1, putKV x.ino true kv', rfl, by first | rfl | go_num, by omega, by omega, (show Aside _ from HR4.out.1), (show Aside _ from fun hf => by cases hf), (show Aside _ from fun _ => by have := HR4.out.2; have := HM.out; omega)⟩
          · have hlti : ¬ (k : Int) < (e.length : Int) := by omega
            have hke : k = e.length := by omega
            subst hke
            go_wp2
            go_roundg (if m = true then e.length + 2 - kv'.length else 0)
            case measure =>
              have h1 := HM.out
              have h2 := hR.out.seen.len
              simp only [if_true] at hm
              cases m with
              | false => simp; omega
              | true =>
                have h3 := hmt.out rfl
                simp; omega
            case rel =>
              refine ⟨m, kv', rfl, Nat.le_refl _, hRk, (show Aside _ from fun hf x hx q1 q2 q3 => ?_)⟩
              obtain ⟨j, hj, hjx⟩ := List.getElem_of_mem hx
              have h4 := (hcl.out hf).2 j hj
              rw [getElem!_pos e j hj, hjx, ← (hcl.out hf).1] at h4
              exact h4 q1 q2 q3
  | false =>
    have hR : ∀ w', Below WA.heap.size WA w' → ReachAt w (.agg #[vn, .slice ea e.length ec, .map (some kb), .map (some lb)]) n e w' [] := by
      intro w' hb
      exact ⟨hbA.trans (hb.mono hbA.size), hboxA.below hb, hmapA.below hb (by omega), by have := hb.size; omega, seenOk_nil hk0⟩
    have HR := Lib.hid hR
    rw [hk0, hWA] at ht
    clear hR hbA hszA hboxA hmapA
    go_wp2_with (go_at_call 121; refine ht.mono ?_; rintro x w3 ⟨rfl, hN⟩; have HR3 := Lib.hid (HR.out w3 (by rw [hWA]; exact hN)); clear hN)
    clear ht hWA HR
    generalize ([] : List (St × Bool)) = kv at HR3
    obtain ⟨sb, hsb⟩ : ∃ sb, sb = w.heap.size + 1 := ⟨_, rfl⟩
    go_loopg [4] (e.length + 3) (fun gg s4 wr => ∃ (more : Bool) (kv : List (St × Bool)), s4 = .bool more ∧ (if more then e.length + 2 - kv.length else 0) ≤ gg ∧ Aside (ReachAt w (.agg #[vn, .slice ea e.length ec, .map (some kb), .map (some lb)]) n e wr kv) ∧ Aside (more = false → SeenAll n e kv))
    case atStart => exact ⟨true, kv, rfl, by simp; omega, HR3.out, fun h => by cases h⟩
    case round =>
      obtain ⟨more, kv, rfl, hm, hR, hcl0⟩ := hrel
      cases more with
      | false =>
        go_wp2
        go_ret
        exact ⟨w.heap.size + 1, rfl, by omega, hR.out.lt, kv, hR.out.map, hR.out.seen, hcl0.out (by first | rfl | trivial), hR.out.below⟩
      | true =>
        obtain ⟨c0, c1, c2, c3, hBl⟩ := hR.out.box.cells
        have HBl := Lib.hid hBl
        clear hBl
        go_wp2
        go_loopg [4, 17] e.length (fun gg s4 s17 wr' => ∃ (m : Bool) (k : Nat) (kv' : List (St × Bool)), s4 = .bool m ∧ s17 = .int .i64 k ∧ k ≤ e.length ∧ e.length - k ≤ gg ∧ Aside (ReachAt w (.agg #[vn, .slice ea e.length ec, .map (some kb), .map (some lb)]) n e wr' kv') ∧
          Aside (m = false → kv' = kv ∧ ∀ j, j < k → hasK kv e[j]!.at_ = true → kindOf n e[j]!.at_ = some 1 → (kindOf n e[j]!.ino).isSome = true → hasK kv e[j]!.ino = true) ∧ Aside (m = true → kv.length < kv'.length))
        case atStart => exact ⟨false, 0, kv, rfl, rfl, Nat.zero_le _, by omega, hR, (show Aside _ from fun _ => ⟨rfl, fun j hj => absurd hj (Nat.not_lt_zero _)⟩), (show Aside _ from fun h => by cases h)⟩
        case round =>
          obtain ⟨m, k, kv', rfl, rfl, hk, hg, hRk, hcl, hmt⟩ := hrel
          have HM : Hid (kv.length ≤ kv'.length) := Lib.hid (by cases m with | false => rw [(hcl.out rfl).1]; exact Nat.le_refl _ | true => exact Nat.le_of_lt (hmt.out rfl))
          by_cases hlt : k < e.length
          · have hlti : (k : Int) < (e.length : Int) := by omega
            have hk0 : (0 : Int) ≤ (k : Int) := by omega
            obtain ⟨b, off, hea, hbl, hcells⟩ : ∃ b off, ea = some ⟨b, off, none⟩ ∧ b < wr.heap.size ∧ ∀ j, j < e.length → ∀ i u, (Ent.cells e[j]!)[i]? = some u → wr.cell? ⟨b, off + j * 5 + i, none⟩ = some u := by
              rcases HE.out wr hRk.out.below with ⟨_, _, _, h0⟩ | ⟨b, off, c', h0, _, _, h3, h4⟩
              · rw [h0] at hlt; exact absurd hlt (Nat.not_lt_zero _)
              · simp at h0; exact ⟨b, off, h0.1, h3, h4⟩
            subst hea
            obtain ⟨x0, x1, x2, x3, x4⟩ := cellsEnt hcells k hlt
            have hxm : e[k]! ∈ e := by rw [getElem!_pos e k hlt]; exact List.getElem_mem _
            clear hcells
            generalize hX : e[k]! = x at *
            have HXe := Lib.hid hX
            have HXM := Lib.hid hxm
            clear hX hxm
            have HBL := Lib.hid hbl
            clear hbl
            clear c0 c1 c2 c3
            have hbx : Below wr.heap.size wr (wr.alloc (.cells #[.int .i64 x.at_.t, .int .i64 x.at_.r, .string x.name, .int .i64 x.ino.t, .int .i64 x.ino.r] 34)) := (Below.refl _ wr).alloc (Nat.le_refl _) _
            obtain ⟨c0, c1, c2, c3, hBl⟩ := (hRk.out.next hbx).box.cells
            have HBX := Lib.hid hbx
            have HX : Hid (∀ w1, Below (wr.alloc (.cells #[.int .i64 x.at_.t, .int .i64 x.at_.r, .string x.name, .int .i64 x.ino.t, .int .i64 x.ino.r] 34)).heap.size (wr.alloc (.cells #[.int .i64 x.at_.t, .int .i64 x.at_.r, .string x.name, .int .i64 x.ino.t, .int .i64 x.ino.r] 34)) w1 → w1.cell? ⟨w.heap.size, 0, none⟩ = some vn ∧ w1.cell? ⟨w.heap.size, 1, none⟩ = some (.slice (some ⟨b, off, none⟩) e.length ec) ∧ w1.cell? ⟨w.heap.size, 2, none⟩ = some (.map (some kb)) ∧ w1.cell? ⟨w.heap.size, 3, none⟩ = some (.map (some lb)) ∧
                w1.cell? ⟨wr.heap.size, 0, none⟩ = some (.int .i64 x.at_.t) ∧ w1.cell? ⟨wr.heap.size, 1, none⟩ = some (.int .i64 x.at_.r) ∧ w1.cell? ⟨wr.heap.size, 2, none⟩ = some (.string x.name) ∧ w1.cell? ⟨wr.heap.size, 3, none⟩ = some (.int .i64 x.ino.t) ∧ w1.cell? ⟨wr.heap.size, 4, none⟩ = some (.int .i64 x.ino.r) ∧ Below wr.heap.size wr w1) := Lib.hid fun w1 hb => by
              have h1 := after1 hb
              obtain ⟨g0, g1, g2, g3, _⟩ := (hRk.out.box.below h1.2).cells
              exact ⟨g0, g1, g2, g3, h1.1 0 _ rfl, h1.1 1 _ rfl, h1.1 2 _ rfl, h1.1 3 _ rfl, h1.1 4 _ rfl, h1.2⟩
            have hl1 := (hRk.out.next hbx).look x.at_
            have hd := directory_any _ n e x.at_ (wr.alloc (.cells #[.int .i64 x.at_.t, .int .i64 x.at_.r, .string x.name, .int .i64 x.ino.t, .int .i64 x.ino.r] 34)) (HA.out _ (hRk.out.next hbx).below)
            change Calls Tryz.prog 115 #[_, .agg #[.int .i64 x.at_.t, .int .i64 x.at_.r]] _ _ at hd
            have HT : Hid (∀ W, Below wr.heap.size wr W → Calls Tryz.prog 121 #[.agg #[vn, .slice (some ⟨b, off, none⟩) e.length ec, .map (some kb), .map (some lb)], .agg #[.int .i64 x.ino.t, .int .i64 x.ino.r]] W fun y w' => y = .returned (.bool (kindOf n x.ino).isSome) ∧ Below W.heap.size W w') := Lib.hid fun W hW => there_any _ n e x.ino W (HA.out _ (hRk.out.next hW).below)
            have HL : Hid (∀ W, Below wr.heap.size wr W → (Instr.lookup 151 (.map (some (w.heap.size + 1))) (.agg #[.int .i64 x.ino.t, .int .i64 x.ino.r]) false).run Tryz.prog W = .ok (.bool (hasK kv' x.ino)) W) := Lib.hid fun W hW => (hRk.out.next hW).look x.ino
            have HU : Hid (hasK kv' x.at_ = true → decide (kindOf n x.at_ = some 1) = true → (kindOf n x.ino).isSome = true → hasK kv' x.ino = false → ∀ W, Below wr.heap.size wr W → ∃ w3, (Instr.mapUpdate 151 (.map (some (w.heap.size + 1))) (.agg #[.int .i64 x.ino.t, .int .i64 x.ino.r]) (.bool true)).run Tryz.prog W = .ok () w3 ∧
                (ReachAt w (.agg #[vn, .slice (some ⟨b, off, none⟩) e.length ec, .map (some kb), .map (some lb)]) n e w3 (putKV x.ino true kv') ∧ (putKV x.ino true kv').length = kv'.length + 1)) := Lib.hid fun q1 q2 q3 q4 W hW => by
              obtain ⟨w3, hu, hp, hm3⟩ := run_update_kv (encV := boolV) keySt Tryz.underlying151 (hRk.out.next hW).map x.ino true
              have hp2 := hRk.out.seen.put x HXM.out q1 (of_decide_eq_true q2) q3 q4
              exact ⟨w3, hu, (hRk.out.next hW).put hp hm3 hp2.1, hp2.2⟩
            clear hBl hbx
            cases hb1 : hasK kv' x.at_ with
            | false =>
              rw [hb1] at hl1
              go_wp2
              go_roundg (e.length - (k + 1))
              case measure => omega
              case rel =>
                exact ⟨m, k + 1, kv', rfl, by first | rfl | go_num, by omega, by omega, (show Aside _ from hRk.out.next HBX.out), (show Aside _ from fun hf => ⟨(hcl.out hf).1, fun j hj => by rcases Nat.lt_succ_iff_lt_or_eq.1 hj with hj | hj; exact (hcl.out hf).2 j hj; subst hj; rw [HXe.out, ← (hcl.out hf).1]; intro q1 q2 q3; rw [hb1] at q1; cases q1⟩), hmt⟩
            | true =>
              rw [hb1] at hl1
              cases hb2 : decide (kindOf n x.at_ = some 1) with
              | false =>
                rw [hb2] at hd
                go_wp2_with (first
                  | (go_at_call 115; refine hd.mono ?_; rintro y w1 ⟨rfl, hN⟩; obtain ⟨c0', c1', c2', c3', d0', d1', d2', d3', d4', HB1⟩ := HX.out w1 hN; have HB1' := Lib.hid HB1; have HW1 := Lib.hid hN; clear HB1 hN))
                go_roundg (e.length - (k + 1))
                case measure => omega
                case rel =>
                  exact ⟨m, k + 1, kv', rfl, by first | rfl | go_num, by omega, by omega, (show Aside _ from hRk.out.next HB1'.out), (show Aside _ from fun hf => ⟨(hcl.out hf).1, fun j hj => by rcases Nat.lt_succ_iff_lt_or_eq.1 hj with hj | hj; exact (hcl.out hf).2 j hj; subst hj; rw [HXe.out, ← (hcl.out hf).1]; intro q1 q2 q3; rw [decide_eq_true q2] at hb2; cases hb2⟩), hmt⟩
              | true =>
                rw [hb2] at hd
                cases hb3 : (kindOf n x.ino).isSome with
                | false =>
                  rw [hb3] at HT
                  go_wp2_with (first
                    | (go_at_call 115; refine hd.mono ?_; rintro y w1 ⟨rfl, hN⟩; obtain ⟨c0', c1', c2', c3', d0', d1', d2', d3', d4', HB1⟩ := HX.out w1 hN; have HB1' := Lib.hid HB1; have HW1 := Lib.hid hN; clear HB1 hN)
                    | (go_at_call 121; refine (HT.out w1 HB1'.out).mono ?_; rintro y w2 ⟨rfl, hN⟩; obtain ⟨c0'', c1'', c2'', c3'', d0'', d1'', d2'', d3'', d4'', HB2⟩ := HX.out w2 (HW1.out.trans (hN.mono HW1.out.size)); have hl2 := HL.out w2 HB2; have HB2' := Lib.hid HB2; clear HB2 hN))
                  go_roundg (e.length - (k + 1))
                  case measure => omega
                  case rel =>
                    exact ⟨m, k + 1, kv', rfl, by first | rfl | go_num, by omega, by omega, (show Aside _ from hRk.out.next HB2'.out), (show Aside _ from fun hf => ⟨(hcl.out hf).1, fun j hj => by rcases Nat.lt_succ_iff_lt_or_eq.1 hj with hj | hj; exact (hcl.out hf).2 j hj; subst hj; rw [HXe.out, ← (hcl.out hf).1]; intro q1 q2 q3; rw [q3] at hb3; cases hb3⟩), hmt⟩
                | true =>
                  rw [hb3] at HT
                  cases hb4 : hasK kv' x.ino with
                  | true =>
                    rw [hb4] at HL
                    go_wp2_with (first
                      | (go_at_call 115; refine hd.mono ?_; rintro y w1 ⟨rfl, hN⟩; obtain ⟨c0', c1', c2', c3', d0', d1', d2', d3', d4', HB1⟩ := HX.out w1 hN; have HB1' := Lib.hid HB1; have HW1 := Lib.hid hN; clear HB1 hN)
                      | (go_at_call 121; refine (HT.out w1 HB1'.out).mono ?_; rintro y w2 ⟨rfl, hN⟩; obtain ⟨c0'', c1'', c2'', c3'', d0'', d1'', d2'', d3'', d4'', HB2⟩ := HX.out w2 (HW1.out.trans (hN.mono HW1.out.size)); have hl2 := HL.out w2 HB2; have HB2' := Lib.hid HB2; clear HB2 hN))
                    go_roundg (e.length - (k + 1))
                    case measure => omega
                    case rel =>
                      exact ⟨m, k + 1, kv', rfl, by first | rfl | go_num, by omega, by omega, (show Aside _ from hRk.out.next HB2'.out), (show Aside _ from fun hf => ⟨(hcl.out hf).1, fun j hj => by rcases Nat.lt_succ_iff_lt_or_eq.1 hj with hj | hj; exact (hcl.out hf).2 j hj; subst hj; rw [HXe.out, ← (hcl.out hf).1]; intro q1 q2 q3; exact hb4⟩), hmt⟩
                  | false =>
                    rw [hb4] at HL
                    have HU2 := Lib.hid (HU.out hb1 hb2 hb3 hb4)
                    go_wp2_with (first
                      | (go_at_call 115; refine hd.mono ?_; rintro y w1 ⟨rfl, hN⟩; obtain ⟨c0', c1', c2', c3', d0', d1', d2', d3', d4', HB1⟩ := HX.out w1 hN; have HB1' := Lib.hid HB1; have HW1 := Lib.hid hN; clear HB1 hN)
                      | (go_at_call 121; refine (HT.out w1 HB1'.out).mono ?_; rintro y w2 ⟨rfl, hN⟩; obtain ⟨c0'', c1'', c2'', c3'', d0'', d1'', d2'', d3'', d4'', HB2⟩ := HX.out w2 (HW1.out.trans (hN.mono HW1.out.size)); have hl2 := HL.out w2 HB2; obtain ⟨w3, hu, hR3⟩ := HU2.out w2 HB2; have HR4 := Lib.hid hR3; clear hR3; have HB2' := Lib.hid HB2; clear HB2 hN))
                    go_roundg (e.length - (k + 1))
                    case measure => omega
                    case rel =>
                      exact ⟨true, k + 1, putKV x.ino true kv', rfl, by first | rfl | go_num, by omega, by omega, (show Aside _ from HR4.out.1), (show Aside _ from fun hf => by cases hf), (show Aside _ from fun _ => by have := HR4.out.2; have := HM.out; omega)⟩
          · have hlti : ¬ (k : Int) < (e.length : Int) := by omega
            have hke : k = e.length := by omega
            subst hke
            go_wp2
            go_roundg (if m = true then e.length + 2 - kv'.length else 0)
            case measure =>
              have h1 := HM.out
              have h2 := hR.out.seen.len
              simp only [if_true] at hm
              cases m with
              | false => simp; omega
              | true =>
                have h3 := hmt.out rfl
                simp; omega
            case rel =>
              refine ⟨m, kv', rfl, Nat.le_refl _, hRk, (show Aside _ from fun hf x hx q1 q2 q3 => ?_)⟩
              obtain ⟨j, hj, hjx⟩ := List.getElem_of_mem hx
              have h4 := (hcl.out hf).2 j hj
              rw [getElem!_pos e j hj, hjx, ← (hcl.out hf).1] at h4
              exact h4 q1 q2 q3
end Go.Proofs.YtlokljaeknmdpaaGreat
