/-
  thimblelaw09.GraphCounts; no condition.
-/
import Derived.Test.YtmnkaohhjhjciaaSame
import Derived.Test.YtmnkaohhjhjciaaCellsDeed
import Derived.Deep.RegionHeld3
namespace Go.Proofs.Ytmnkaohhjhjciaa
open Go.RowKit Go.Shelf Go.Proofs

theorem after1d {w w' : World} {cs : Array Value} {t : TypeId} (hb : Below (w.alloc (.cells cs t)).drew.heap.size (w.alloc (.cells cs t)).drew w') : (∀ i v, cs[i]? = some v → w'.cell? ⟨w.heap.size, i, none⟩ = some v) ∧ Below w.heap.size w w' :=
  after1 ⟨hb.os, hb.tape, hb.output, hb.size, hb.block⟩

/-- how many of the first k entries lead to an inode -/
def cntTo (e : List Ent) (id : St) (k : Nat) : Nat := ((e.take k).filter fun x => decide (x.ino = id)).length
theorem cntTo_succ {e : List Ent} {id : St} {k : Nat} (hk : k < e.length) : cntTo e id (k + 1) = cntTo e id k + if e[k]!.ino = id then 1 else 0 := by
  unfold cntTo
  rw [List.take_succ_eq_append_getElem hk, List.filter_append, List.length_append, getElem!_pos e k hk]
  by_cases h : e[k].ino = id <;> simp [h]
theorem cntTo_le (e : List Ent) (id : St) (k : Nat) : cntTo e id k ≤ e.length := by
  unfold cntTo
  refine Nat.le_trans (List.length_filter_le _ _) ?_
  simp; omega
theorem cntTo_all (g : Gr) (id : St) : cntTo g.e id g.e.length = g.count id := by
  unfold cntTo Gr.count
  rw [List.take_length]
theorem eql_st (p q : St) (w : World) : (binOp .eql 29 (.agg #[.int .i64 p.t, .int .i64 p.r]) (.agg #[.int .i64 q.t, .int .i64 q.r])).run Try.prog w = .ok (.bool (decide (p = q))) w := by
  simp only [binOp]
  simp only [Sem.run_bind]
  rw [eq_st, eqSt]
  rfl

/-- what holds of an inode -/
theorem Gr.Ok.node {g : Gr} (h : g.Ok) {z : Ino} (hz : z ∈ g.n) : z.links = (g.count z.id : Int) ∧ g.count z.id ≤ 6 ∧
    ((z.kind ≠ 1 ∧ g.parent z.id = none) ∨ (z.kind = 1 ∧ g.count z.id = 0 ∧ g.parent z.id = none) ∨ ∃ p, z.kind = 1 ∧ g.count z.id = 1 ∧ g.parent z.id = some p ∧ g.under p z.id = false) := by
  have h1 := h.links z hz
  have h2 := h.most z hz
  refine ⟨h1, by omega, ?_⟩
  have hget : g.get z.id = some z := h.get_iff.2 ⟨hz, rfl⟩
  by_cases hk : z.kind = 1
  · right
    have hd : g.isDir z.id = true := Gr.isDir_iff.2 ⟨z, hget, hk⟩
    have hle := h.dir_one hd
    cases hp : g.parent z.id with
    | none =>
      left
      refine ⟨hk, ?_, rfl⟩
      rcases Gr.parent_none hp with h0 | h0
      · rw [hd] at h0; cases h0
      · unfold Gr.count
        rw [List.length_eq_zero_iff, List.filter_eq_nil_iff]
        intro x hx
        simpa using h0 x hx
    | some p =>
      right
      obtain ⟨_, x, hx, hxi, _⟩ := Gr.parent_some hp
      have : 0 < g.count z.id := by
        unfold Gr.count
        exact List.length_pos_of_mem (List.mem_filter.2 ⟨hx, by simpa using hxi⟩)
      refine ⟨p, hk, by omega, rfl, ?_⟩
      rw [Bool.eq_false_iff]
      intro hu
      obtain ⟨r, hr⟩ := h.ends_up
      have h3 := hr _ _ hp
      have h4 := h.under_antisymm (Gr.under_iff.1 hu) (.step hp .here)
      rw [h4] at h3
      omega
  · left
    refine ⟨hk, ?_⟩
    cases hp : g.parent z.id with
    | none => rfl
    | some p =>
      obtain ⟨hd, _⟩ := Gr.parent_some hp
      obtain ⟨i, hi, hk2⟩ := Gr.isDir_iff.1 hd
      rw [hget] at hi
      cases hi
      exact absurd hk2 hk
theorem Gr.Ok.root_got {g : Gr} (h : g.Ok) : (g.get ⟨0, 0⟩).isSome = true ∧ (g.got ⟨0, 0⟩).kind = 1 ∧ (g.got ⟨0, 0⟩).links = 0 := by
  obtain ⟨i, hi, h1, h2⟩ := h.root
  have hget : g.get ⟨0, 0⟩ = some i := h.get_iff.2 ⟨hi, h1⟩
  rw [Gr.got_of hget, hget]
  refine ⟨rfl, h2, ?_⟩
  rw [h.links i hi, h1]
  have : g.count ⟨0, 0⟩ = 0 := by
    unfold Gr.count
    rw [List.length_eq_zero_iff, List.filter_eq_nil_iff]
    intro x hx
    simpa using (h.ends x hx).2.2
  rw [this]; rfl

set_option maxRecDepth 100000 in
set_option maxHeartbeats 4000000 in
theorem counts_walk (v : Value) (l : List Deed) (w : World) (hs : SlAt w 9 Deed.cells v l) (hn : ∀ d ∈ l, d.e.name.size ≤ maxLen) :
    Calls Try.prog 8 #[v] w fun y w' => y = .returned (.bool true) ∧ Below w.heap.size w w' := by
  obtain ⟨W0, hW0⟩ : ∃ W0, W0 = w := ⟨_, rfl⟩
  have HB00 : Hid (Below w.heap.size w W0) := Lib.hid (by rw [hW0]; exact Below.refl _ _)
  have HSL : Hid (∀ W, Below W0.heap.size W0 W → SlAt W 9 Deed.cells v l) := Lib.hid fun W hW => hs.below (HB00.out.trans (hW.mono HB00.out.size))
  obtain ⟨va, vc, rfl⟩ := hs.len
  have hlm : l.length ≤ maxLen := by
    rcases hs with ⟨_, _, _, h0⟩ | ⟨_, _, c', h0, h1, h2, _⟩
    · rw [h0]; simp
    · simp at h0; omega
  have HNM := Lib.hid hn
  clear hs hn
  unfold maxLen at hlm
  go_enter Try.func8, Try.ntmps8
  go_wp2_with fail
  rw [← hW0]
  have HW0 := Lib.hid hW0
  clear hW0
  refine (shown9_any _).mono ?_
  rintro e w1 ⟨rfl, hb⟩
  have HB1 := Lib.hid hb
  clear hb
  go_wp2_with fail
  refine (new_g w1).mono ?_
  rintro e w2 ⟨v, rfl, ⟨gb, mI, mE, rfl, hG, h1, h2, h3⟩, hb⟩
  have HG := Lib.hid hG
  have HB2 := Lib.hid (HB1.out.trans (hb.mono HB1.out.size))
  have HM : Hid (W0.heap.size ≤ mI ∧ W0.heap.size ≤ mE) := Lib.hid (by have := HB1.out.size; omega)
  clear hG hb h1 h2 h3
  go_wp2
  go_loopg [5] 150 (fun gg s5 wr => ∃ i : Nat, s5 = .int .i64 i ∧ i ≤ l.length ∧ i ≤ 150 ∧ 150 - i ≤ gg ∧ Aside (GrAt wr gb mI mE (played (l.take i))) ∧ Aside (Below W0.heap.size W0 wr))
  case atStart => exact ⟨0, rfl, Nat.zero_le _, Nat.zero_le _, by omega, (show Aside _ from HG.out), (show Aside _ from HB2.out)⟩
  case round =>
    obtain ⟨i, rfl, hil, hi150, hgg, hG, hB⟩ := hrel
    have hi0 : (0 : Int) ≤ (i : Int) := by omega
    have hwi : IntKind.i64.wrap ((i : Int) + 1) = (i : Int) + 1 := wrapNat (i + 1) (by omega)
    by_cases hgo : i < l.length ∧ i < 150
    · obtain ⟨hlt, hlt2⟩ := hgo
      have hlti : (i : Int) < (l.length : Int) := by omega
      have hlti2 : (i : Int) < 150 := by omega
      obtain ⟨bb, off, rfl, hbl, hcells⟩ : ∃ b off, va = some ⟨b, off, none⟩ ∧ b < wr.heap.size ∧ ∀ j, j < l.length → ∀ i u, (Deed.cells l[j]!)[i]? = some u → wr.cell? ⟨b, off + j * 9 + i, none⟩ = some u := by
        rcases HSL.out wr hB.out with ⟨_, _, _, h0⟩ | ⟨b, off, c', h0, _, _, h3, h4⟩
        · rw [h0] at hlt; exact absurd hlt (Nat.not_lt_zero _)
        · simp at h0; exact ⟨b, off, h0.1, h3, h4⟩
      obtain ⟨x0, x1, x2, x3, x4, x5, x6, x7, x8⟩ := cellsDeed hcells i hlt
      have hdo := do_any gb mI mE (played (l.take i)) l[i]! wr hG.out (played_ok _) (HNM.out _ (getElem!_mem hlt))
      have HST := Lib.hid (played_step l i hlt)
      clear hcells
      unfold Deed.v at hdo
      generalize l[i]! = x at x0 x1 x2 x3 x4 x5 x6 x7 x8 hdo HST
      generalize played (l.take i) = G at hdo HST
      go_wp2_with (go_at_call 21; refine hdo.mono ?_; rintro e w3 ⟨rfl, hG3, hT3⟩; have HG3 := Lib.hid hG3; have HT3 := Lib.hid hT3; clear hG3 hT3)
      go_roundg (150 - (i + 1))
      case measure => omega
      case rel => exact ⟨i + 1, by first | rfl | go_num, by omega, by omega, by omega, (show Aside _ from by rw [HST.out]; exact HG3.out), (show Aside _ from hB.out.trans (own_below HT3.out HM.out.1 HM.out.2 hB.out.size))⟩
    · obtain ⟨wo, rfl⟩ : ∃ wo : World, wo = wr := ⟨_, rfl⟩
      have hOK := played_ok (l.take i)
      have HG2 := hG
      generalize played (l.take i) = G at hOK HG2
      have hl1 : (G.n.length : Int) ≤ 40 := by have := hOK.len; omega
      have hl2 : (G.e.length : Int) ≤ 240 := by have := hOK.few; omega
      have HI : Hid (∀ W, Below wo.heap.size wo W → Calls Try.prog 35 #[.pointer (some ⟨gb, 0, none⟩)] W fun e w' => ∃ v : Value, e = .returned v ∧ w'.ownsRow W.heap.size 31 6 v G.n.length (G.n.flatMap Ino.cells) ∧ Below W.heap.size W w') := Lib.hid fun W hW => inodes_any gb mI mE G W (HG2.out.below hW) hOK.sn (by omega)
      have HE : Hid (∀ W, Below wo.heap.size wo W → Calls Try.prog 34 #[.pointer (some ⟨gb, 0, none⟩)] W fun e w' => ∃ v : Value, e = .returned v ∧ w'.ownsRow W.heap.size 33 5 v G.e.length (G.e.flatMap Ent.cells) ∧ Below W.heap.size W w') := Lib.hid fun W hW => entries_any gb mI mE G W (HG2.out.below hW) hOK.se (by omega)
      have HBk0 : Hid (Below wo.heap.size wo wo) := Lib.hid (Below.refl _ _)
      have hendl : (¬ (i : Int) < (l.length : Int)) ∨ ((i : Int) < (l.length : Int) ∧ ¬ (i : Int) < 150) := by omega
      have HOK := Lib.hid hOK
      have HGG := Lib.hid HG2.out
      clear hOK HG2 hgo
      rcases hendl with hendl | ⟨hendl, hend2⟩
      all_goals
        go_wp2_with fail
        refine (HE.out _ (by first | exact HBk0.out | exact HBk0.out.alloc HBk0.out.size _ | exact (HBk0.out.alloc HBk0.out.size _).alloc (le_al HBk0.out.size) _ | exact ((HBk0.out.alloc HBk0.out.size _).alloc (le_al HBk0.out.size) _).alloc (le_al (le_al HBk0.out.size)) _)).mono ?_
        rintro e k1 ⟨ve, rfl, hoe, hbk1⟩
        obtain ⟨hck1, hfk1⟩ := bcell hbk1
        have hsk1 := hbk1.size
        try simp only [World.size_alloc] at hsk1
        try simp only [size_setCell'] at hsk1
        try have lek1_0 : wo.heap.size ≤ k1.heap.size := (by omega)
        try have ltk1_0 : wo.heap.size < k1.heap.size := (by omega)
        have HBk1 : Hid (Below wo.heap.size wo k1) := Lib.hid (Below.trans (by first | exact HBk0.out | exact HBk0.out.alloc HBk0.out.size _ | exact (HBk0.out.alloc HBk0.out.size _).alloc (le_al HBk0.out.size) _ | exact ((HBk0.out.alloc HBk0.out.size _).alloc (le_al HBk0.out.size) _).alloc (le_al (le_al HBk0.out.size)) _) (hbk1.mono (by (try simp only [World.size_alloc]); (try simp only [size_setCell']); omega)))
        have HNk1 := Lib.hid hbk1
        clear hbk1 hsk1
        have HSe := Lib.hid (slAt_own hoe)
        obtain ⟨ae, ce, rfl⟩ := ownsRow_len hoe
        clear hoe
        go_wp2_with fail
        refine (HI.out _ (by first | exact HBk1.out | exact HBk1.out.alloc HBk1.out.size _ | exact (HBk1.out.alloc HBk1.out.size _).alloc (le_al HBk1.out.size) _ | exact ((HBk1.out.alloc HBk1.out.size _).alloc (le_al HBk1.out.size) _).alloc (le_al (le_al HBk1.out.size)) _ | exact HBk0.out | exact HBk0.out.alloc HBk0.out.size _ | exact (HBk0.out.alloc HBk0.out.size _).alloc (le_al HBk0.out.size) _ | exact ((HBk0.out.alloc HBk0.out.size _).alloc (le_al HBk0.out.size) _).alloc (le_al (le_al HBk0.out.size)) _)).mono ?_
        rintro e k2 ⟨vn, rfl, hon, hbk2⟩
        obtain ⟨hck2, hfk2⟩ := bcell hbk2
        have hsk2 := hbk2.size
        try simp only [World.size_alloc] at hsk2
        try simp only [size_setCell'] at hsk2
        try have lek2_0 : wo.heap.size ≤ k2.heap.size := (by omega)
        try have ltk2_0 : wo.heap.size < k2.heap.size := (by omega)
        try have lek2_1 : k1.heap.size ≤ k2.heap.size := (by omega)
        try have ltk2_1 : k1.heap.size < k2.heap.size := (by omega)
        have HBk2 : Hid (Below wo.heap.size wo k2) := Lib.hid (Below.trans (by first | exact HBk1.out | exact HBk1.out.alloc HBk1.out.size _ | exact (HBk1.out.alloc HBk1.out.size _).alloc (le_al HBk1.out.size) _ | exact ((HBk1.out.alloc HBk1.out.size _).alloc (le_al HBk1.out.size) _).alloc (le_al (le_al HBk1.out.size)) _ | exact HBk0.out | exact HBk0.out.alloc HBk0.out.size _ | exact (HBk0.out.alloc HBk0.out.size _).alloc (le_al HBk0.out.size) _ | exact ((HBk0.out.alloc HBk0.out.size _).alloc (le_al HBk0.out.size) _).alloc (le_al (le_al HBk0.out.size)) _) (hbk2.mono (by (try simp only [World.size_alloc]); (try simp only [size_setCell']); omega)))
        have HNk2 := Lib.hid hbk2
        clear hbk2 hsk2
        have HSn := Lib.hid (slAt_ownI hon)
        obtain ⟨an, cn, rfl⟩ := ownsRow_len hon
        clear hon
        have HSN : Hid (∀ W, Below k2.heap.size k2 W → SlAt W 6 Ino.cells (.slice an G.n.length cn) G.n) := Lib.hid fun W hW => HSn.out.below hW
        have HSE : Hid (∀ W, Below k2.heap.size k2 W → SlAt W 5 Ent.cells (.slice ae G.e.length ce) G.e) := Lib.hid fun W hW => HSe.out.below (HNk2.out.trans (hW.mono HNk2.out.size))
        have HBO : Hid (∀ W, Below k2.heap.size k2 W → Below wo.heap.size wo W) := Lib.hid fun W hW => HBk2.out.trans (hW.mono HBk2.out.size)
        clear HI HE HSn HSe
        go_wp2
        go_loopg [8] G.n.length (fun gg s8 wr => ∃ i : Nat, s8 = .int .i64 i ∧ i ≤ G.n.length ∧ G.n.length - i ≤ gg ∧ Aside (Below k2.heap.size k2 wr))
        case atStart => exact ⟨0, rfl, Nat.zero_le _, by omega, (show Aside _ from Below.refl _ _)⟩
        case round =>
          obtain ⟨i', rfl, hi', hgg', hB2⟩ := hrel
          by_cases hlt' : i' < G.n.length
          · obtain ⟨wi, rfl⟩ : ∃ wi : World, wi = wr := ⟨_, rfl⟩
            have hlti' : (i' : Int) < (G.n.length : Int) := by omega
            have hi0' : (0 : Int) ≤ (i' : Int) := by omega
            have hwi' : IntKind.i64.wrap ((i' : Int) + 1) = (i' : Int) + 1 := wrapNat (i' + 1) (by omega)
            obtain ⟨bn, on, rfl, hbn, hcn⟩ := slAt_at (HSN.out wi hB2.out) hlt'
            have hcn' := cellsIno hcn i' hlt'
            have hzm := getElem!_mem hlt'
            have hnode := HOK.out.node hzm
            generalize G.n[i']! = z at hcn' hnode
            have HZ : Hid (∀ W, Below wi.heap.size wi W → W.cell? ⟨bn, on + i' * 6, none⟩ = some (.int .i64 z.id.t) ∧ W.cell? ⟨bn, on + i' * 6 + 1, none⟩ = some (.int .i64 z.id.r) ∧ W.cell? ⟨bn, on + i' * 6 + 2, none⟩ = some (.int .i64 z.kind) ∧ W.cell? ⟨bn, on + i' * 6 + 3, none⟩ = some (.int .i64 z.links) ∧ bn < W.heap.size) := Lib.hid fun W hW => by
              obtain ⟨g0, g1, g2, g3, _, _⟩ := hcn'
              have f := fun i v h => (hW.cell (p := ⟨bn, i, none⟩) hbn).trans (h : wi.cell? ⟨bn, i, none⟩ = some v)
              exact ⟨f _ _ g0, f _ _ g1, f _ _ g2, f _ _ g3, Nat.lt_of_lt_of_le hbn hW.size⟩
            have HB2 := Lib.hid hB2.out
            have HNODE := Lib.hid hnode
            clear hcn hcn' hzm hnode hB2 hbn
            go_wp2
            go_loopg [9, 10] G.e.length (fun gg s9 s10 wr => ∃ k : Nat, s9 = .int .i64 (cntTo G.e z.id k : Nat) ∧ s10 = .int .i64 k ∧ k ≤ G.e.length ∧ G.e.length - k ≤ gg ∧ Aside (Below wi.heap.size wi wr))
            case atStart => exact ⟨0, rfl, rfl, Nat.zero_le _, by omega, (show Aside _ from Below.refl _ _)⟩
            case round =>
              obtain ⟨k, rfl, rfl, hk, hgk, hB3⟩ := hrel
              by_cases hlk : k < G.e.length
              · have hlki : (k : Int) < (G.e.length : Int) := by omega
                have hk0 : (0 : Int) ≤ (k : Int) := by omega
                have hwk : IntKind.i64.wrap ((k : Int) + 1) = (k : Int) + 1 := wrapNat (k + 1) (by omega)
                have hcl := cntTo_le G.e z.id k
                have hwc : IntKind.i64.wrap (((cntTo G.e z.id k : Nat) : Int) + 1) = ((cntTo G.e z.id k : Nat) : Int) + 1 := wrapNat (cntTo G.e z.id k + 1) (by omega)
                have HCS := Lib.hid (cntTo_succ (id := z.id) hlk)
                obtain ⟨be, oe, rfl, hbe, hce⟩ := slAt_at (HSE.out wr (HB2.out.trans (hB3.out.mono HB2.out.size))) hlk
                obtain ⟨_, _, _, x3, x4⟩ := cellsEnt hce k hlk
                obtain ⟨z0, z1, z2, z3, hbn⟩ := HZ.out wr hB3.out
                generalize hx : G.e[k]! = x at x3 x4 HCS
                have heq := eql_st x.ino z.id
                clear hce hx hcl
                by_cases he : x.ino = z.id
                · rw [decide_eq_true he] at heq
                  have HE1 := Lib.hid he
                  clear he
                  go_wp2
                  go_region
                  all_goals
                    go_wp2
                    go_roundg (G.e.length - (k + 1))
                    case measure => omega
                    case rel => exact ⟨k + 1, by rw [HCS.out, if_pos HE1.out]; first | rfl | go_num, by first | rfl | go_num, by omega, by omega, (show Aside _ from hB3.out.drew)⟩
                · rw [decide_eq_false he] at heq
                  have HE1 := Lib.hid he
                  clear he
                  go_wp2
                  go_region
                  all_goals
                    go_wp2
                    go_roundg (G.e.length - (k + 1))
                    case measure => omega
                    case rel => exact ⟨k + 1, by rw [HCS.out, if_neg HE1.out]; first | rfl | go_num, by first | rfl | go_num, by omega, by omega, (show Aside _ from hB3.out.drew)⟩
              · have hlki : ¬ (k : Int) < (G.e.length : Int) := by omega
                have hke : k = G.e.length := by omega
                subst hke
                obtain ⟨wj, rfl⟩ : ∃ wj : World, wj = wr := ⟨_, rfl⟩
                have hnode := HNODE.out
                rw [← cntTo_all G z.id] at hnode
                have hBj := HB2.out.trans (hB3.out.mono HB2.out.size)
                have HBJ := Lib.hid hBj
                have HP : Hid (∀ W, Below wj.heap.size wj W → Calls Try.prog 27 #[.pointer (some ⟨gb, 0, none⟩), (.agg #[.int .i64 z.id.t, .int .i64 z.id.r])] W fun e w' => e = .returned (.tuple #[((G.parent z.id).getD ⟨0, 0⟩).v, .bool (G.parent z.id).isSome]) ∧ Below W.heap.size W w') := Lib.hid fun W hW => parent_any gb mI mE G z.id W (HGG.out.below (HBO.out W (hBj.trans (hW.mono hBj.size)))) HOK.out.sn HOK.out.se (by omega)
                have HU : Hid (∀ p W, Below wj.heap.size wj W → Calls Try.prog 32 #[.pointer (some ⟨gb, 0, none⟩), (.agg #[.int .i64 p.t, .int .i64 p.r]), (.agg #[.int .i64 z.id.t, .int .i64 z.id.r])] W fun e w' => e = .returned (.bool (G.under p z.id)) ∧ Below W.heap.size W w') := Lib.hid fun p W hW => under_any gb mI mE G p z.id W (HGG.out.below (HBO.out W (hBj.trans (hW.mono hBj.size)))) HOK.out (by omega)
                have HZJ : Hid (∀ W, Below wj.heap.size wj W → W.cell? ⟨bn, on + i' * 6, none⟩ = some (.int .i64 z.id.t) ∧ W.cell? ⟨bn, on + i' * 6 + 1, none⟩ = some (.int .i64 z.id.r) ∧ W.cell? ⟨bn, on + i' * 6 + 2, none⟩ = some (.int .i64 z.kind) ∧ W.cell? ⟨bn, on + i' * 6 + 3, none⟩ = some (.int .i64 z.links) ∧ bn < W.heap.size) := Lib.hid fun W hW => HZ.out W (hB3.out.trans (hW.mono hB3.out.size))
                have HBj0 : Hid (Below wj.heap.size wj wj) := Lib.hid (Below.refl _ _)
                clear hBj hB3 HNODE
                generalize cntTo G.e z.id G.e.length = c at hnode ⊢
                obtain ⟨hlinks, hc6, hnode⟩ := hnode
                rw [hlinks] at HZJ
                have hc6' : ¬ (6 : Int) < (c : Int) := by omega
                have hcases : (G.parent z.id = none ∧ ((z.kind == 1) = false ∨ (z.kind = 1 ∧ ¬ (1 : Int) < c ∧ ((c : Int) == 1) = false))) ∨ ∃ p, z.kind = 1 ∧ (c : Int) = 1 ∧ G.parent z.id = some p ∧ G.under p z.id = false := by
                  rcases hnode with ⟨h1, h2⟩ | ⟨h1, h2, h3⟩ | ⟨p, h1, h2, h3, h4⟩
                  · exact .inl ⟨h2, .inl (beq_eq_false_iff_ne.2 h1)⟩
                  · exact .inl ⟨h3, .inr ⟨h1, by omega, by rw [h2]; rfl⟩⟩
                  · exact .inr ⟨p, h1, by omega, h3, h4⟩
                clear hnode hlinks hc6
                obtain ⟨zid, zk, zl, zm, zd⟩ := z
                simp only at *
                rcases hcases with ⟨hp, hk1 | ⟨rfl, hc1, hc2⟩⟩ | ⟨p, rfl, hc1, hp, hu⟩
                · rw [hp] at HP
                  unfold St.v at HP
                  clear hp
                  obtain ⟨z0, z1, z2, z3, hbj⟩ := HZJ.out wj HBj0.out
                  go_wp2_with fail
                  refine (HP.out _ (by first | exact HBj0.out | exact HBj0.out.alloc HBj0.out.size _ | exact (HBj0.out.alloc HBj0.out.size _).alloc (le_al HBj0.out.size) _ | exact ((HBj0.out.alloc HBj0.out.size _).alloc (le_al HBj0.out.size) _).alloc (le_al (le_al HBj0.out.size)) _)).mono ?_
                  rintro e j1 ⟨rfl, hbj1⟩
                  obtain ⟨hcj1, hfj1⟩ := bcell hbj1
                  have hsj1 := hbj1.size
                  try simp only [World.size_alloc] at hsj1
                  try simp only [size_setCell'] at hsj1
                  try have lej1_0 : wj.heap.size ≤ j1.heap.size := (by omega)
                  try have ltj1_0 : wj.heap.size < j1.heap.size := (by omega)
                  have HBj1 : Hid (Below wj.heap.size wj j1) := Lib.hid (Below.trans (by first | exact HBj0.out | exact HBj0.out.alloc HBj0.out.size _ | exact (HBj0.out.alloc HBj0.out.size _).alloc (le_al HBj0.out.size) _ | exact ((HBj0.out.alloc HBj0.out.size _).alloc (le_al HBj0.out.size) _).alloc (le_al (le_al HBj0.out.size)) _) (hbj1.mono (by (try simp only [World.size_alloc]); (try simp only [size_setCell']); omega)))
                  have HNj1 := Lib.hid hbj1
                  clear hbj1 hsj1
                  obtain ⟨y0, y1, y2, y3, hbj1⟩ := HZJ.out j1 HBj1.out
                  clear HB00 HSL hlm HNM HW0 HB1 HG HB2 HM hil hi150 hgg hi0 hwi HOK HGG hl1 hl2 HNk1 HNk2 HBk0 HBk1 HBk2 HSN HSE HBO HZ HP HU HZJ hck1 hck2 hfk1 hfk2 z0 z1 z2 z3 hlki hk hgk HNj1 hcj1 hfj1
                  go_wp2
                  refine wp_region_quiet_lit (by kernel_rfl) (by kernel_rfl) ?_
                  iterate 49 (first | go_big_quiet_step (fail) | quiet_step (fail))
                  go_big_quiet_step (fail)
                  refine wpQuiet_nil ?_
                  intro _ hw'
                  obtain ⟨nq, hw''⟩ := hw'
                  subst hw''
                  go_wp2
                  go_roundg (G.n.length - (i' + 1))
                  case measure => omega
                  case rel =>
                    refine ⟨i' + 1, by first | rfl | go_num, by omega, by omega, (show Aside _ from ?_)⟩
                    have h1 := HBJ.out.trans ((HBj1.out.alloc HBj1.out.size (.cells #[.int .i64 0, .int .i64 0] 29)).mono HBJ.out.size)
                    exact ⟨h1.os, h1.tape, h1.output, h1.size, h1.block⟩
                · rw [hp] at HP
                  unfold St.v at HP
                  clear hp
                  obtain ⟨z0, z1, z2, z3, hbj⟩ := HZJ.out wj HBj0.out
                  go_wp2_with fail
                  refine (HP.out _ (by first | exact HBj0.out | exact HBj0.out.alloc HBj0.out.size _ | exact (HBj0.out.alloc HBj0.out.size _).alloc (le_al HBj0.out.size) _ | exact ((HBj0.out.alloc HBj0.out.size _).alloc (le_al HBj0.out.size) _).alloc (le_al (le_al HBj0.out.size)) _)).mono ?_
                  rintro e j1 ⟨rfl, hbj1⟩
                  obtain ⟨hcj1, hfj1⟩ := bcell hbj1
                  have hsj1 := hbj1.size
                  try simp only [World.size_alloc] at hsj1
                  try simp only [size_setCell'] at hsj1
                  try have lej1_0 : wj.heap.size ≤ j1.heap.size := (by omega)
                  try have ltj1_0 : wj.heap.size < j1.heap.size := (by omega)
                  have HBj1 : Hid (Below wj.heap.size wj j1) := Lib.hid (Below.trans (by first | exact HBj0.out | exact HBj0.out.alloc HBj0.out.size _ | exact (HBj0.out.alloc HBj0.out.size _).alloc (le_al HBj0.out.size) _ | exact ((HBj0.out.alloc HBj0.out.size _).alloc (le_al HBj0.out.size) _).alloc (le_al (le_al HBj0.out.size)) _) (hbj1.mono (by (try simp only [World.size_alloc]); (try simp only [size_setCell']); omega)))
                  have HNj1 := Lib.hid hbj1
                  clear hbj1 hsj1
                  obtain ⟨y0, y1, y2, y3, hbj1⟩ := HZJ.out j1 HBj1.out
                  clear HB00 HSL hlm HNM HW0 HB1 HG HB2 HM hil hi150 hgg hi0 hwi HOK HGG hl1 hl2 HNk1 HNk2 HBk0 HBk1 HBk2 HSN HSE HBO HZ HP HU HZJ hck1 hck2 hfk1 hfk2 z0 z1 z2 z3 hlki hk hgk HNj1 hcj1 hfj1
                  go_wp2
                  refine wp_region_quiet_lit (by kernel_rfl) (by kernel_rfl) ?_
                  iterate 49 (first | go_big_quiet_step (fail) | quiet_step (fail))
                  go_big_quiet_step (fail)
                  refine wpQuiet_nil ?_
                  intro _ hw'
                  obtain ⟨nq, hw''⟩ := hw'
                  subst hw''
                  go_wp2
                  go_roundg (G.n.length - (i' + 1))
                  case measure => omega
                  case rel =>
                    refine ⟨i' + 1, by first | rfl | go_num, by omega, by omega, (show Aside _ from ?_)⟩
                    have h1 := HBJ.out.trans ((HBj1.out.alloc HBj1.out.size (.cells #[.int .i64 0, .int .i64 0] 29)).mono HBJ.out.size)
                    exact ⟨h1.os, h1.tape, h1.output, h1.size, h1.block⟩
                · rw [hc1] at HZJ ⊢
                  clear hc1 hc6'
                  rw [hp] at HP
                  simp only [Option.getD_some, Option.isSome_some] at HP
                  unfold St.v at HP
                  have HUp := Lib.hid (HU.out p)
                  rw [hu] at HUp
                  clear hp hu HU
                  obtain ⟨z0, z1, z2, z3, hbj⟩ := HZJ.out wj HBj0.out
                  go_wp2_with fail
                  refine (HP.out _ (by first | exact HBj0.out | exact HBj0.out.alloc HBj0.out.size _ | exact (HBj0.out.alloc HBj0.out.size _).alloc (le_al HBj0.out.size) _ | exact ((HBj0.out.alloc HBj0.out.size _).alloc (le_al HBj0.out.size) _).alloc (le_al (le_al HBj0.out.size)) _)).mono ?_
                  rintro e j1 ⟨rfl, hbj1⟩
                  obtain ⟨hcj1, hfj1⟩ := bcell hbj1
                  have hsj1 := hbj1.size
                  try simp only [World.size_alloc] at hsj1
                  try simp only [size_setCell'] at hsj1
                  try have lej1_0 : wj.heap.size ≤ j1.heap.size := (by omega)
                  try have ltj1_0 : wj.heap.size < j1.heap.size := (by omega)
                  have HBj1 : Hid (Below wj.heap.size wj j1) := Lib.hid (Below.trans (by first | exact HBj0.out | exact HBj0.out.alloc HBj0.out.size _ | exact (HBj0.out.alloc HBj0.out.size _).alloc (le_al HBj0.out.size) _ | exact ((HBj0.out.alloc HBj0.out.size _).alloc (le_al HBj0.out.size) _).alloc (le_al (le_al HBj0.out.size)) _) (hbj1.mono (by (try simp only [World.size_alloc]); (try simp only [size_setCell']); omega)))
                  have HNj1 := Lib.hid hbj1
                  clear hbj1 hsj1
                  obtain ⟨y0, y1, y2, y3, hbj1⟩ := HZJ.out j1 HBj1.out
                  clear HB00 HSL hlm HNM HW0 HB1 HG HB2 HM hil hi150 hgg hi0 hwi HOK HGG hl1 hl2 HNk1 HNk2 HBk0 HBk1 HBk2 HSN HSE HBO HZ HP hck1 hck2 hfk1 hfk2 z0 z1 z2 z3 hlki hk hgk HNj1 hcj1 hfj1
                  go_wp2
                  go_region_held3 (fun W => W.cell? ⟨bn, on + i' * 6, none⟩ = some (.int .i64 zid.t) ∧ W.cell? ⟨bn, on + i' * 6 + 1, none⟩ = some (.int .i64 zid.r) ∧ W.cell? ⟨bn, on + i' * 6 + 2, none⟩ = some (.int .i64 1) ∧ W.cell? ⟨bn, on + i' * 6 + 3, none⟩ = some (.int .i64 1) ∧ W.cell? ⟨j1.heap.size, 0, none⟩ = some (.int .i64 p.t) ∧ W.cell? ⟨j1.heap.size, 1, none⟩ = some (.int .i64 p.r)) (go_keep) (first
                    | (go_at_call 32; refine (HUp.out _ (HBj1.out.alloc HBj1.out.size _).drew).mono ?_; rintro e j2 ⟨rfl, hb2⟩; have HBj2 := Lib.hid (HBj1.out.trans ((after1d hb2).2.mono HBj1.out.size)); obtain ⟨q0, q1, q2, q3, _⟩ := HZJ.out j2 HBj2.out; have p0 : j2.cell? ⟨j1.heap.size, 0, none⟩ = some (.int .i64 p.t) := (after1d hb2).1 0 _ rfl; have p1 : j2.cell? ⟨j1.heap.size, 1, none⟩ = some (.int .i64 p.r) := (after1d hb2).1 1 _ rfl; clear hb2))
                  all_goals
                    go_wp2
                    go_roundg (G.n.length - (i' + 1))
                    case measure => omega
                    case rel =>
                      refine ⟨i' + 1, by first | rfl | go_num, by omega, by omega, (show Aside _ from ?_)⟩
                      have h1 := HBJ.out.trans (HBj2.out.mono HBJ.out.size)
                      exact ⟨h1.os, h1.tape, h1.output, h1.size, h1.block⟩
          · have hlti' : ¬ (i' : Int) < (G.n.length : Int) := by omega
            obtain ⟨wi, rfl⟩ : ∃ wi : World, wi = wr := ⟨_, rfl⟩
            have HB2 := Lib.hid hB2.out
            clear hB2
            go_wp2
            go_loopg [13] G.e.length (fun gg s13 wr => ∃ k : Nat, s13 = .int .i64 k ∧ k ≤ G.e.length ∧ G.e.length - k ≤ gg ∧ Aside (Below k2.heap.size k2 wr))
            case atStart => exact ⟨0, rfl, Nat.zero_le _, by omega, (show Aside _ from HB2.out)⟩
            case round =>
              obtain ⟨k, rfl, hk, hgk, hB3⟩ := hrel
              obtain ⟨wb, rfl⟩ : ∃ wb : World, wb = wr := ⟨_, rfl⟩
              have HBb0 : Hid (Below wb.heap.size wb wb) := Lib.hid (Below.refl _ _)
              have HG : Hid (∀ (id : St) W, Below wb.heap.size wb W → Calls Try.prog 23 #[.pointer (some ⟨gb, 0, none⟩), (.agg #[.int .i64 id.t, .int .i64 id.r])] W fun e w' => e = .returned (.tuple #[(G.got id).v, .bool (G.get id).isSome]) ∧ Below W.heap.size W w') := Lib.hid fun id W hW => (get_any gb mI mE G id W (HGG.out.below (HBO.out W (hB3.out.trans (hW.mono hB3.out.size)))) HOK.out.sn).mono fun e w' ⟨a, b⟩ => ⟨a, b.below⟩
              have HB3 := Lib.hid hB3.out
              clear hB3
              by_cases hlk : k < G.e.length
              · have hlki : (k : Int) < (G.e.length : Int) := by omega
                have hk0 : (0 : Int) ≤ (k : Int) := by omega
                have hwk : IntKind.i64.wrap ((k : Int) + 1) = (k : Int) + 1 := wrapNat (k + 1) (by omega)
                obtain ⟨be, oe, rfl, hbe, hce⟩ := slAt_at (HSE.out wb HB3.out) hlk
                have hce' := cellsEnt hce k hlk
                have hends := HOK.out.ends _ (getElem!_mem hlk)
                generalize G.e[k]! = x at hce' hends
                have HX : Hid (∀ W, Below wb.heap.size wb W → W.cell? ⟨be, oe + k * 5, none⟩ = some (.int .i64 x.at_.t) ∧ W.cell? ⟨be, oe + k * 5 + 1, none⟩ = some (.int .i64 x.at_.r) ∧ W.cell? ⟨be, oe + k * 5 + 3, none⟩ = some (.int .i64 x.ino.t) ∧ W.cell? ⟨be, oe + k * 5 + 4, none⟩ = some (.int .i64 x.ino.r) ∧ be < W.heap.size) := Lib.hid fun W hW => by
                  obtain ⟨g0, g1, _, g3, g4⟩ := hce'
                  have f := fun i v h => (hW.cell (p := ⟨be, i, none⟩) hbe).trans (h : wb.cell? ⟨be, i, none⟩ = some v)
                  exact ⟨f _ _ g0, f _ _ g1, f _ _ g3, f _ _ g4, Nat.lt_of_lt_of_le hbe hW.size⟩
                obtain ⟨ia, hia, hka⟩ := Gr.isDir_iff.1 hends.1
                have HA := Lib.hid (HG.out x.at_)
                have HI := Lib.hid (HG.out x.ino)
                rw [Gr.got_of hia, hia] at HA
                rw [hends.2.1] at HI
                have h3 := (St.three x.ino ⟨0, 0⟩).resolve_left hends.2.2
                generalize G.got x.ino = ib at HI
                obtain ⟨a1, a2, a3, a4, a5⟩ := ia
                simp only at hka
                subst hka
                unfold Ino.v at HA HI
                clear hce hce' hends hia hbe HG
                obtain ⟨x0, x1, x3, x4, hbw⟩ := HX.out wb HBb0.out
                obtain ⟨at_, nm, ino⟩ := x
                simp only at *
                rcases h3 with ⟨_, ht⟩ | ⟨r, rfl, _, hr⟩
                all_goals
                  try (have ht' : ¬ ino.t = 0 := (by simpa using ht))
                  try (have hr' : ¬ r = 0 := (by simpa using hr))
                  go_wp2_with fail
                  refine (HA.out _ (by first | exact HBb0.out | exact HBb0.out.alloc HBb0.out.size _ | exact (HBb0.out.alloc HBb0.out.size _).alloc (le_al HBb0.out.size) _ | exact ((HBb0.out.alloc HBb0.out.size _).alloc (le_al HBb0.out.size) _).alloc (le_al (le_al HBb0.out.size)) _)).mono ?_
                  rintro e b1 ⟨rfl, hbb1⟩
                  obtain ⟨hcb1, hfb1⟩ := bcell hbb1
                  have hsb1 := hbb1.size
                  try simp only [World.size_alloc] at hsb1
                  try simp only [size_setCell'] at hsb1
                  try have leb1_0 : wb.heap.size ≤ b1.heap.size := (by omega)
                  try have ltb1_0 : wb.heap.size < b1.heap.size := (by omega)
                  have HBb1 : Hid (Below wb.heap.size wb b1) := Lib.hid (Below.trans (by first | exact HBb0.out | exact HBb0.out.alloc HBb0.out.size _ | exact (HBb0.out.alloc HBb0.out.size _).alloc (le_al HBb0.out.size) _ | exact ((HBb0.out.alloc HBb0.out.size _).alloc (le_al HBb0.out.size) _).alloc (le_al (le_al HBb0.out.size)) _) (hbb1.mono (by (try simp only [World.size_alloc]); (try simp only [size_setCell']); omega)))
                  have HNb1 := Lib.hid hbb1
                  clear hbb1 hsb1
                  obtain ⟨_, _, _, _, _⟩ := HX.out b1 HBb1.out
                  go_wp2_with fail
                  refine (HI.out _ (by first | exact HBb1.out | exact HBb1.out.alloc HBb1.out.size _ | exact (HBb1.out.alloc HBb1.out.size _).alloc (le_al HBb1.out.size) _ | exact ((HBb1.out.alloc HBb1.out.size _).alloc (le_al HBb1.out.size) _).alloc (le_al (le_al HBb1.out.size)) _ | exact HBb0.out | exact HBb0.out.alloc HBb0.out.size _ | exact (HBb0.out.alloc HBb0.out.size _).alloc (le_al HBb0.out.size) _ | exact ((HBb0.out.alloc HBb0.out.size _).alloc (le_al HBb0.out.size) _).alloc (le_al (le_al HBb0.out.size)) _)).mono ?_
                  rintro e b2 ⟨rfl, hbb2⟩
                  obtain ⟨hcb2, hfb2⟩ := bcell hbb2
                  have hsb2 := hbb2.size
                  try simp only [World.size_alloc] at hsb2
                  try simp only [size_setCell'] at hsb2
                  try have leb2_0 : wb.heap.size ≤ b2.heap.size := (by omega)
                  try have ltb2_0 : wb.heap.size < b2.heap.size := (by omega)
                  try have leb2_1 : b1.heap.size ≤ b2.heap.size := (by omega)
                  try have ltb2_1 : b1.heap.size < b2.heap.size := (by omega)
                  have HBb2 : Hid (Below wb.heap.size wb b2) := Lib.hid (Below.trans (by first | exact HBb1.out | exact HBb1.out.alloc HBb1.out.size _ | exact (HBb1.out.alloc HBb1.out.size _).alloc (le_al HBb1.out.size) _ | exact ((HBb1.out.alloc HBb1.out.size _).alloc (le_al HBb1.out.size) _).alloc (le_al (le_al HBb1.out.size)) _ | exact HBb0.out | exact HBb0.out.alloc HBb0.out.size _ | exact (HBb0.out.alloc HBb0.out.size _).alloc (le_al HBb0.out.size) _ | exact ((HBb0.out.alloc HBb0.out.size _).alloc (le_al HBb0.out.size) _).alloc (le_al (le_al HBb0.out.size)) _) (hbb2.mono (by (try simp only [World.size_alloc]); (try simp only [size_setCell']); omega)))
                  have HNb2 := Lib.hid hbb2
                  clear hbb2 hsb2
                  obtain ⟨_, _, _, _, _⟩ := HX.out b2 HBb2.out
                  go_wp2
                  go_roundg (G.e.length - (k + 1))
                  case measure => omega
                  case rel => exact ⟨k + 1, by first | rfl | go_num, by omega, by omega, (show Aside _ from HB3.out.trans ((HBb2.out.alloc HBb2.out.size _).mono HB3.out.size))⟩
              · have hlki : ¬ (k : Int) < (G.e.length : Int) := by omega
                have HR := Lib.hid (HG.out ⟨0, 0⟩)
                obtain ⟨hr1, hr2, hr3⟩ := HOK.out.root_got
                rw [hr1] at HR
                generalize G.got ⟨0, 0⟩ = ir at HR hr2 hr3
                obtain ⟨a1, a2, a3, a4, a5⟩ := ir
                simp only at hr2 hr3
                subst hr2 hr3
                unfold Ino.v at HR
                clear hr1 HG
                have hl40 : (G.n.length : Int) ≤ 40 := by omega
                go_wp2_with fail
                refine (HR.out _ (by first | exact HBb0.out | exact HBb0.out.alloc HBb0.out.size _ | exact (HBb0.out.alloc HBb0.out.size _).alloc (le_al HBb0.out.size) _ | exact ((HBb0.out.alloc HBb0.out.size _).alloc (le_al HBb0.out.size) _).alloc (le_al (le_al HBb0.out.size)) _)).mono ?_
                rintro e b1 ⟨rfl, hbb1⟩
                obtain ⟨hcb1, hfb1⟩ := bcell hbb1
                have hsb1 := hbb1.size
                try simp only [World.size_alloc] at hsb1
                try simp only [size_setCell'] at hsb1
                try have leb1_0 : wb.heap.size ≤ b1.heap.size := (by omega)
                try have ltb1_0 : wb.heap.size < b1.heap.size := (by omega)
                have HBb1 : Hid (Below wb.heap.size wb b1) := Lib.hid (Below.trans (by first | exact HBb0.out | exact HBb0.out.alloc HBb0.out.size _ | exact (HBb0.out.alloc HBb0.out.size _).alloc (le_al HBb0.out.size) _ | exact ((HBb0.out.alloc HBb0.out.size _).alloc (le_al HBb0.out.size) _).alloc (le_al (le_al HBb0.out.size)) _) (hbb1.mono (by (try simp only [World.size_alloc]); (try simp only [size_setCell']); omega)))
                have HNb1 := Lib.hid hbb1
                clear hbb1 hsb1
                go_wp2
                go_ret
                have q1 : Below W0.heap.size W0 k2 := hB.out.trans (HBk2.out.mono hB.out.size)
                have q2 : Below W0.heap.size W0 wb := q1.trans (HB3.out.mono q1.size)
                exact ⟨rfl, HB00.out.trans ((q2.trans ((HBb1.out.alloc HBb1.out.size _).mono q2.size)).mono HB00.out.size)⟩
end Go.Proofs.Ytmnkaohhjhjciaa
