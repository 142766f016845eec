/-
  thimblelaw14.OplogTheorem: the graph is that of the base and the operations; no condition but the texts' reach. · Opening deeds at a log; no condition.
-/
import Derived.Test.YtlokljaeknmdpaaGreatKZ46
import Derived.Test.YtlokljaeknmdpaaGreatKZ47
import Derived.Deep.AppendLies
import Derived.Test.YtlokljaeknmdpaaGreatKZ34
/-! ## LTheorem -/
namespace Go.Proofs.YtlokljaeknmdpaaGreat.L14
open Go.RowKit Go.Shelf Go.Proofs

set_option linter.unusedVariables false
set_option linter.unusedSimpArgs false

theorem compact_len' (L : Lg) (s : St) : (L.compact s).ops.length ≤ L.ops.length := by
  unfold Lg.compact
  split
  · show (L.ops.drop _).length ≤ _
    rw [List.length_drop]; omega
  · exact Nat.le_refl _
theorem but_low {a b c C : Nat} {w0 w w' : World} (hb : But3 a b c w w') (hw : Below C w0 w) (h1 : C ≤ w.heap.size) (h2 : C ≤ a) (h3 : C ≤ b) (h4 : C ≤ c) : Below C w0 w' := hw.trans (hb.below h1 h2 h3 h4)
/-- the operations' row lies in the heap -/
theorem ops_lt {B : Nat} {w : World} {lb gb mI mE : Nat} {L : Lg} (h : LogAt B w lb gb mI mE L) : OpsIn w lb (fun j => j < w.heap.size) := fun v g h1 h2 => by
  obtain ⟨bb, bI, bE, vo, vr, rs, k1, _, k3, _⟩ := h.parts
  rw [(log_cells k1).2.2.2.2.1] at h1
  obtain rfl := Option.some.inj h1
  rcases k3.2 with ⟨rfl, _⟩ | ⟨g', cap, cur, rfl, _, k4, _⟩
  · simp [Value.ownBlock] at h2
  · have : g' = g := by simpa [Value.ownBlock] using h2
    subst this
    exact (Array.getElem?_eq_some_iff.1 k4).1
/-- a row of operations that isn't the log's may grow -/
theorem LogAt.grown {B C n : Nat} {w w' : World} {lb gb mI mE : Nat} {L : Lg} {v : Value} {xs : List Value} (h : LogAt B w lb gb mI mE L) (hr : w.ownsRow C 47 13 v n xs) (hi : OpsIn w lb fun j => v.ownBlock ≠ some j) (hg : w.grownBy w' v.ownBlock) : LogAt B w' lb gb mI mE L := by
  have hty : ∀ j, v.ownBlock = some j → ∃ cs fz, w.heap[j]? = some (Obj.cells cs 47 fz) := fun j hj => by
    rcases hr.2 with ⟨rfl, _⟩ | ⟨g, cap, cur, rfl, _, h4, _⟩
    · simp [Value.ownBlock] at hj
    · have : g = j := by simpa [Value.ownBlock] using hj
      subst this
      exact ⟨_, _, h4⟩
  have hc : ∀ {j : Nat} {cs : Array Value} {t : TypeId} {fz : Nat × Nat}, t ≠ 47 → w.heap[j]? = some (.cells cs t fz) → w'.heap[j]? = w.heap[j]? := fun {j cs t fz} ht hj => hg.block j (Array.getElem?_eq_some_iff.1 hj).1 fun e => by
    obtain ⟨cs', fz', h'⟩ := hty j e.symm
    rw [hj] at h'
    simp only [Option.some.injEq, Obj.cells.injEq] at h'
    exact ht h'.2.1
  have hm : ∀ {j es n}, w.heap[j]? = some (Obj.map es n) → w'.heap[j]? = w.heap[j]? := fun {j es n} hj => hg.block j (Array.getElem?_eq_some_iff.1 hj).1 fun e => by
    obtain ⟨cs', fz', h'⟩ := hty j e.symm
    rw [hj] at h'; cases h'
  have hrow : ∀ {C k n : Nat} {t : TypeId} {v : Value} {xs : List Value}, t ≠ 47 → w.ownsRow C t k v n xs → w'.ownsRow C t k v n xs := fun ht hr => row_but hr fun j cs fz hj => hc ht hj
  have hgr : ∀ {gb mI mE : Nat} {g : Gr}, GrAt w gb mI mE g → GrAt w' gb mI mE g := fun hg0 => by
    obtain ⟨⟨e1, n1, k1⟩, ⟨e2, n2, k2⟩⟩ := hg0.maps
    exact hg0.kept (hc (by decide) hg0.box) (hm k1) (hm k2)
  obtain ⟨bb, bI, bE, vo, vr, rs, h1, h2, h3, h4, h5, h6, h7⟩ := h.parts
  refine ⟨⟨bb, bI, bE, vo, vr, rs, (hc (by decide) h1).trans h1, hgr h2, ?_, hrow (by decide) h4, h5.to fun _ _ _ _ _ hr => ⟨hrow (by decide) hr.1, hrow (by decide) hr.2.1, hrow (by decide) hr.2.2.1, hrow (by decide) hr.2.2.2⟩, h6, h7⟩, hgr h.g, h.ok, h.small, h.few, h.ge⟩
  refine ⟨h3.1, ?_⟩
  rcases h3.2 with h0 | ⟨g, cap, cur, hv, hb, hh, rest⟩
  · exact .inl h0
  · exact .inr ⟨g, cap, cur, hv, hb, (hg.block g (Array.getElem?_eq_some_iff.1 hh).1 fun e => hi vo g (log_cells h1).2.2.2.2.1 (by rw [hv]; rfl) e.symm).trans hh, rest⟩
theorem OpsIn.grown {B : Nat} {w w' : World} {lb gb mI mE : Nat} {L : Lg} {v v' : Value} {g : Nat} (h : LogAt B w lb gb mI mE L) (hi : OpsIn w lb fun j => v.ownBlock ≠ some j) (hc : w'.cell? ⟨lb, 4, none⟩ = w.cell? ⟨lb, 4, none⟩) (hor : v.ownBlock = some g ∨ g = w.heap.size) (hv' : v'.ownBlock = some g) : OpsIn w' lb fun j => v'.ownBlock ≠ some j := fun u j h1 h2 e => by
  rw [hc] at h1
  rw [hv'] at e
  obtain rfl := Option.some.inj e
  rcases hor with e | e
  · exact hi u _ h1 h2 e
  · have := ops_lt h u _ h1 h2
    omega
theorem own_lt {w : World} {C k n : Nat} {t : TypeId} {v : Value} {xs : List Value} (h : w.ownsRow C t k v n xs) : ∀ g, w.heap.size ≤ g → v.ownBlock ≠ some g := fun g hg e => by
  rcases h.2 with ⟨rfl, _⟩ | ⟨g', cap, cur, rfl, _, h4, _⟩
  · simp [Value.ownBlock] at e
  · have : g' = g := by simpa [Value.ownBlock] using e
    subst this
    have := (Array.getElem?_eq_some_iff.1 h4).1
    omega
theorem row_but3 {a b c C : Nat} {v : Value} {l : List Op} {w w' : World} (h : OpsRow C v l w) (hb : But3 a b c w w') (h1 : a < C) (h2 : b < C) (h3 : c < C) : OpsRow C v l w' := ownsRow_keep h fun j hj hl => hb.block j hl (by omega) (by omega) (by omega)
/-- an operation's cells -/
def Cel (b a : Nat) (o : Op) (W : World) : Prop := W.cell? ⟨b, a, none⟩ = some (.int .i64 o.stamp.t) ∧ W.cell? ⟨b, a + 1, none⟩ = some (.int .i64 o.stamp.r) ∧ W.cell? ⟨b, a + 2, none⟩ = some (.int .i64 o.kind) ∧ W.cell? ⟨b, a + 3, none⟩ = some (.int .i64 o.at_.t) ∧ W.cell? ⟨b, a + 4, none⟩ = some (.int .i64 o.at_.r) ∧ W.cell? ⟨b, a + 5, none⟩ = some (.int .i64 o.ino.t) ∧ W.cell? ⟨b, a + 6, none⟩ = some (.int .i64 o.ino.r) ∧ W.cell? ⟨b, a + 7, none⟩ = some (.int .i64 o.to.t) ∧ W.cell? ⟨b, a + 8, none⟩ = some (.int .i64 o.to.r) ∧ W.cell? ⟨b, a + 9, none⟩ = some (.string o.name) ∧ W.cell? ⟨b, a + 10, none⟩ = some (.string o.new) ∧ W.cell? ⟨b, a + 11, none⟩ = some (.int .i64 o.off) ∧ W.cell? ⟨b, a + 12, none⟩ = some (.string o.data)
theorem takeE {P : Program} {ops : Array Oper} {Q : Exit → Act → World → Prop} {md : Region.Mode} {S : World → Prop} {i : Nat} (d : Nat) {oi : Oper} {v : Value} {fuel : Nat} {listed : Array Bool} {a : Act} {w : World} (hi : ops[i]? = some oi) (hd : oi.dst = some d)
    (hQ : ∀ c a w, Q (.panic c) (a.put oi.dst v) w → Q (.panic c) a w) (hy : YieldsIf P ops S oi v a) (hS : S w) (h : wpAnyM [] P md ops Q S fuel (listed.setIfInBounds i true) (a.put (some d) v) w)
    (hs : Region.noSelect ops = true := by kernel_rfl) (hf : Region.free md ops listed i = true := by kernel_rfl) (hr : (Region.ready md ops listed).contains i = true := by kernel_rfl) : wpAnyM [] P md ops Q S (fuel + 1) listed a w :=
  wpAnyM_takeD d hi hd hs rfl rfl rfl hf hr hQ hy hS h

set_option maxRecDepth 100000 in
set_option maxHeartbeats 8000000 in
theorem theorem_M (v : Value) (l : List DeedL) (w : World) (hs : SlAt w 14 DeedL.cells v l) (hn : ∀ d ∈ l, d.o.Small) (M : Nat) (hM : M = l.length ∧ l.length ≤ 60 ∨ M = 60 ∧ 60 < l.length) :
    Calls Tryz.prog 15 #[v] w fun y w' => y = .returned (.bool true) ∧ Below w.heap.size w w' := by
  have HSL := Lib.hid hs
  have HNM := Lib.hid hn
  have HX0 : Hid (Below w.heap.size w w) := Lib.hid (Below.refl _ _)
  obtain ⟨i0, hinf, hz0, hz1, hz2⟩ := info_parts infoOp
  have HM6 : Hid (M ≤ 60 ∧ M ≤ l.length) := Lib.hid (by omega)
  have HMM := Lib.hid hM
  obtain ⟨va, vc, rfl⟩ := hs.len
  clear hs hn hM
  go_enter Tryz.func15, Tryz.ntmps15
  go_wp2_with fail
  refine (shown_any w).mono ?_
  rintro e x1 ⟨rfl, hb⟩
  have HX1 : Hid (Below w.heap.size w x1) := Lib.hid (HX0.out.trans (hb.mono HX0.out.size))
  clear hb
  go_wp2_with fail
  refine (new_log x1).mono ?_
  rintro e x2 ⟨la, ga, aI, aE, rfl, hL, hb⟩
  have HX2 : Hid (Below w.heap.size w x2) := Lib.hid (HX1.out.trans (hb.mono HX1.out.size))
  have HL2 : Hid (LogAt w.heap.size x2 la ga aI aE ⟨Gr.new, ⟨0, 0⟩, []⟩) := Lib.hid (hL.mono HX1.out.size)
  have HGE : Hid (w.heap.size ≤ la ∧ w.heap.size ≤ aI ∧ w.heap.size ≤ aE) := Lib.hid (by have := HL2.out.ge; omega)
  have HLT : Hid (la < x2.heap.size ∧ aI < x2.heap.size ∧ aE < x2.heap.size) := Lib.hid (by have := HL2.out.lt; omega)
  clear hL hb
  go_wp2
  go_loopg [5, 6, 7] M (fun gg s5 s6 s7 wr => ∃ (i : Nat) (all : List Op) (late : Bool) (L : Lg), s6 = .bool late ∧ s7 = .int .i64 i ∧ i ≤ M ∧ M - i ≤ gg ∧ L.ops.length ≤ i ∧ all.length ≤ i ∧ Aside (OpsRow x2.heap.size s5 all wr) ∧ Aside (LogAt w.heap.size wr la ga aI aE L) ∧ Aside (OpsIn wr la fun j => s5.ownBlock ≠ some j) ∧ Aside ((late = false → L.All all) ∧ ∀ o ∈ all, o.Small) ∧ Aside (Below w.heap.size w wr ∧ x2.heap.size ≤ wr.heap.size))
  case atStart => exact ⟨0, [], false, _, rfl, rfl, Nat.zero_le _, by omega, Nat.zero_le _, Nat.zero_le _, (show Aside _ from World.ownsRow_nil _ _ _ _), (show Aside _ from HL2.out), (show Aside _ from fun _ j _ _ => by simp [Value.ownBlock]), (show Aside _ from ⟨fun _ => Lg.All.new, by simp⟩), (show Aside _ from ⟨HX2.out, Nat.le_refl _⟩)⟩
  case round =>
    obtain ⟨i, all, late, L, rfl, rfl, hil, hgg, hll, hal, hR, hL, hI, hP, hB⟩ := hrel
    have hi0 : (0 : Int) ≤ (i : Int) := by omega
    have hwi : IntKind.i64.wrap ((i : Int) + 1) = (i : Int) + 1 := wrapNat (i + 1) (by have := HM6.out; omega)
    obtain ⟨ra, rc, rfl⟩ := hR.out.shape
    have HR0 := Lib.hid hR.out
    have HL0 := Lib.hid hL.out
    have HI0 := Lib.hid hI.out
    have HP0 := Lib.hid hP.out
    have HY0 : Hid (Below w.heap.size w wr) := Lib.hid hB.out.1
    have HZ0 : Hid (x2.heap.size ≤ wr.heap.size ∧ True) := Lib.hid ⟨hB.out.2, trivial⟩
    have HOK : Hid (L.g.Ok) := Lib.hid (runs_ok _ HL0.out.ok.base)
    clear hR hL hI hP hB
    by_cases hlt : i < M
    · have hlen : i < l.length := by have := HM6.out; omega
      have d1 : decide (i < l.length) = true := decide_eq_true hlen
      have c1 : (i : Int) < (l.length : Int) := by omega
      have d2 : decide (i < 60) = true := decide_eq_true (by have := HM6.out; omega)
      have c2 : (i : Int) < 60 := by have := HM6.out; omega
      obtain ⟨xb, xo, rfl, hxl, hxc⟩ := slAt_at HSL.out hlen
      obtain ⟨hop, hcb⟩ := cellsDL hxc i hlen
      have hso := HNM.out _ (getElem!_mem hlen)
      clear hxc
      generalize (l[i]!).o = o at *
      generalize (l[i]!).c = c at *
      have HSO := Lib.hid hso
      have HCE : Hid (∀ W, Below w.heap.size w W → (Cel xb (xo + i * 14) o) W) := Lib.hid fun W hW => ⟨(hW.cell (p := ⟨xb, _, none⟩) hxl).trans (hop 0 _ rfl), (hW.cell (p := ⟨xb, _, none⟩) hxl).trans (hop 1 _ rfl), (hW.cell (p := ⟨xb, _, none⟩) hxl).trans (hop 2 _ rfl), (hW.cell (p := ⟨xb, _, none⟩) hxl).trans (hop 3 _ rfl), (hW.cell (p := ⟨xb, _, none⟩) hxl).trans (hop 4 _ rfl), (hW.cell (p := ⟨xb, _, none⟩) hxl).trans (hop 5 _ rfl), (hW.cell (p := ⟨xb, _, none⟩) hxl).trans (hop 6 _ rfl), (hW.cell (p := ⟨xb, _, none⟩) hxl).trans (hop 7 _ rfl), (hW.cell (p := ⟨xb, _, none⟩) hxl).trans (hop 8 _ rfl), (hW.cell (p := ⟨xb, _, none⟩) hxl).trans (hop 9 _ rfl), (hW.cell (p := ⟨xb, _, none⟩) hxl).trans (hop 10 _ rfl), (hW.cell (p := ⟨xb, _, none⟩) hxl).trans (hop 11 _ rfl), (hW.cell (p := ⟨xb, _, none⟩) hxl).trans (hop 12 _ rfl)⟩
      have hcw := (HY0.out.cell (p := ⟨xb, _, none⟩) hxl).trans hcb
      obtain ⟨_, _, _, _, _, _, _, _, _, _, _, _, _⟩ := HCE.out _ HY0.out
      clear hop hcb hso
      cases c with
      | true =>
        go_wp2_with fail
        refine (graph_l _ la ga aI aE L wr HL0.out).mono ?_
        rintro e y1 ⟨u, rfl, ⟨gw, iw, ew, rfl, hg, k1, k2, k3⟩, hb⟩
        have HY1 : Hid (Below w.heap.size w y1) := Lib.hid (HY0.out.trans (hb.mono HY0.out.size))
        have HGw := Lib.hid hg
        have HL1 := Lib.hid (HL0.out.below hb)
        have HR1 := Lib.hid (HR0.out.kept hb)
        have HI1 := Lib.hid (HI0.out.to (hb.cell (p := ⟨la, 4, none⟩) HL0.out.lt.1) fun _ h => h)
        have HNE : Hid (iw ≠ aI ∧ iw ≠ aE ∧ ew ≠ aI ∧ ew ≠ aE) := Lib.hid (by have := HL0.out.lt; omega)
        have HZ1 : Hid (x2.heap.size ≤ y1.heap.size ∧ True) := Lib.hid ⟨Nat.le_trans HZ0.out.1 hb.size, trivial⟩
        clear hg k1 k2 k3 hb
        obtain ⟨_, _, _, _, _, _, _, _, _, _, _, _, _⟩ := HCE.out _ HY1.out
        go_wp2_with fail
        refine (compact_any2 _ la ga aI aE L o.stamp y1 HL1.out).mono ?_
        rintro e y2 ⟨rfl, hA, hb, hi⟩
        have HY2 : Hid (Below w.heap.size w y2) := Lib.hid (but_low hb HY1.out HY1.out.size HGE.out.1 HGE.out.2.1 HGE.out.2.2)
        have HL2 := Lib.hid hA
        have HR2 := Lib.hid (row_but3 HR1.out hb HLT.out.1 HLT.out.2.1 HLT.out.2.2)
        have HI2 := Lib.hid (hi _ HI1.out (own_lt HR1.out))
        have HGx := Lib.hid (hb.graph HL1.out.blocks HGw.out HNE.out.1 HNE.out.2.1 HNE.out.2.2.1 HNE.out.2.2.2)
        have HZ2 : Hid (x2.heap.size ≤ y2.heap.size ∧ True) := Lib.hid ⟨Nat.le_trans HZ1.out.1 hb.size, trivial⟩
        clear hA hb hi
        go_wp2_with fail
        refine (graph_l _ la ga aI aE (L.compact o.stamp) y2 HL2.out).mono ?_
        rintro e y3 ⟨u, rfl, ⟨gz, iz, ez, rfl, hg, _, _, _⟩, hb⟩
        have HY3 : Hid (Below w.heap.size w y3) := Lib.hid (HY2.out.trans (hb.mono HY2.out.size))
        rw [HL0.out.ok.compact_g] at hg
        have HGz := Lib.hid (hg.reads HOK.out (by have := HOK.out.few; omega))
        have HGy := Lib.hid ((HGx.out.below hb).reads HOK.out (by have := HOK.out.few; omega))
        have HL3 := Lib.hid (HL2.out.below hb)
        have HR3 := Lib.hid (HR2.out.kept hb)
        have HI3 := Lib.hid (HI2.out.to (hb.cell (p := ⟨la, 4, none⟩) HL2.out.lt.1) fun _ h => h)
        have HZ3 : Hid (x2.heap.size ≤ y3.heap.size ∧ True) := Lib.hid ⟨Nat.le_trans HZ2.out.1 hb.size, trivial⟩
        clear hg hb
        go_wp2_with fail
        refine (same_any gw gz L.g y3 HOK.out HGy.out HGz.out).mono ?_
        rintro e y4 ⟨rfl, hb⟩
        have HY4 : Hid (Below w.heap.size w y4) := Lib.hid (HY3.out.trans (hb.mono HY3.out.size))
        have HL4 := Lib.hid (HL3.out.below hb)
        have HR4 := Lib.hid (HR3.out.kept hb)
        have HI4 := Lib.hid (HI3.out.to (hb.cell (p := ⟨la, 4, none⟩) HL3.out.lt.1) fun _ h => h)
        have HZ4 : Hid (x2.heap.size ≤ y4.heap.size ∧ True) := Lib.hid ⟨Nat.le_trans HZ3.out.1 hb.size, trivial⟩
        clear hb
        go_wp2
        go_roundg (M - (i + 1))
        case measure => omega
        case rel => exact ⟨i + 1, all, late, L.compact o.stamp, by first | rfl | go_num, by first | rfl | go_num, by omega, by omega, (by have := compact_len' L o.stamp; omega), by omega, (show Aside _ from HR4.out), (show Aside _ from HL4.out), (show Aside _ from HI4.out), (show Aside _ from ⟨fun h => (HP0.out.1 h).compact o.stamp, HP0.out.2⟩), (show Aside _ from ⟨HY4.out, HZ4.out.1⟩)⟩
      | false =>
        have HSD := Lib.hid (HCE.out _ HY0.out.drew)
        have hcl := cmpSt_le (a := o.stamp) (b := L.floor)
        obtain ⟨bl, hbl⟩ : ∃ bl, (!decide (ltSt L.floor o.stamp)) = bl := ⟨_, rfl⟩
        rw [hbl] at hcl
        have HLW : Hid (bl = false → L.floor = ⟨0, 0⟩ ∨ ltSt L.floor o.stamp) := Lib.hid fun h => .inr (by rw [h] at hbl; simpa using hbl)
        clear hbl
        rcases St.three L.floor ⟨0, 0⟩ with hF | ⟨hne, h1⟩ | ⟨r, hF, hne, h1⟩
        · clear hcl HLW
          have HLW : Hid (false = false → L.floor = ⟨0, 0⟩ ∨ ltSt L.floor o.stamp) := Lib.hid fun _ => .inl hF
          go_wp2_with fail
          refine wp_region_M [] (S := (Cel xb (xo + i * 14) o)) (by kernel_rfl) ?_
          refine takeE (i := 0) 42 (v := ?va0) rfl rfl (fun _ _ _ h => h) (Or.inl ⟨by rfl, ?ha0⟩) HSD.out ?ra0
          case ha0 => intro W _; go_simp; first | done | with_reducible rfl
          try simp only [Act.put, List.setIfInBounds_toArray, List.set_cons_zero, List.set_cons_succ]
          refine takeE (i := 2) 44 (v := ?va2) rfl rfl (fun _ _ _ h => h) (Or.inl ⟨by rfl, ?ha2⟩) HSD.out ?ra2
          case ha2 => intro W _; go_simp; first | done | with_reducible rfl
          try simp only [Act.put, List.setIfInBounds_toArray, List.set_cons_zero, List.set_cons_succ]
          refine wpAnyM_oneG (i := 1) (by kernel_rfl) rfl (by rfl) ?_
          go_simp
          refine Calls.mono (floor_l _ la ga aI aE L wr.drew (HL0.out.below (Below.refl _ _).drew)) ?_
          rintro e y1 ⟨rfl, hb0⟩
          have HY1 : Hid (Below w.heap.size w y1) := Lib.hid ((HY0.out.trans ((Below.refl _ _).drew.mono HY0.out.size)).trans (hb0.mono HY0.out.drew.size))
          have hb := ((Below.refl _ wr).drew).trans hb0
          clear hb0
          have HL1 := Lib.hid (HL0.out.below hb)
          have HR1 := Lib.hid (HR0.out.kept hb)
          have HI1 := Lib.hid (HI0.out.to (hb.cell (p := ⟨la, 4, none⟩) HL0.out.lt.1) fun _ h => h)
          have HZ1 : Hid (x2.heap.size ≤ y1.heap.size ∧ True) := Lib.hid ⟨Nat.le_trans HZ0.out.1 hb.size, trivial⟩
          clear hb
          rw [hF]
          unfold St.v
          have HS1 := Lib.hid (HCE.out _ HY1.out)
          refine ⟨HCE.out _ HY1.out, ?_⟩
          try simp only [Act.put, List.setIfInBounds_toArray, List.set_cons_zero, List.set_cons_succ]
          refine takeE (i := 3) 45 (v := ?va3) rfl rfl (fun _ _ _ h => h) (Or.inl ⟨by rfl, ?ha3⟩) HS1.out ?ra3
          case ha3 => intro W _; go_simp; first | done | with_reducible rfl
          try simp only [Act.put, List.setIfInBounds_toArray, List.set_cons_zero, List.set_cons_succ]
          refine takeE (i := 4) 46 (v := ?va4) rfl rfl (fun _ _ _ h => h) (Or.inl ⟨by rfl, ?ha4⟩) HS1.out ?ra4
          case ha4 => intro W _; go_simp; first | done | with_reducible rfl
          try simp only [Act.put, List.setIfInBounds_toArray, List.set_cons_zero, List.set_cons_succ]
          refine takeE (i := 5) 47 (v := undef) rfl rfl (fun _ _ _ h => h) (Or.inr ⟨by rfl, rfl⟩) HS1.out ?_
          try simp only [Act.put, List.setIfInBounds_toArray, List.set_cons_zero, List.set_cons_succ]
          refine takeE (i := 6) 48 (v := undef) rfl rfl (fun _ _ _ h => h) (Or.inr ⟨by rfl, rfl⟩) HS1.out ?_
          try simp only [Act.put, List.setIfInBounds_toArray, List.set_cons_zero, List.set_cons_succ]
          refine takeE (i := 7) 49 (v := undef) rfl rfl (fun _ _ _ h => h) (Or.inr ⟨by rfl, rfl⟩) HS1.out ?_
          try simp only [Act.put, List.setIfInBounds_toArray, List.set_cons_zero, List.set_cons_succ]
          refine takeE (i := 8) 50 (v := undef) rfl rfl (fun _ _ _ h => h) (Or.inr ⟨by rfl, rfl⟩) HS1.out ?_
          try simp only [Act.put, List.setIfInBounds_toArray, List.set_cons_zero, List.set_cons_succ]
          refine takeE (i := 9) 51 (v := undef) rfl rfl (fun _ _ _ h => h) (Or.inr ⟨by rfl, rfl⟩) HS1.out ?_
          try simp only [Act.put, List.setIfInBounds_toArray, List.set_cons_zero, List.set_cons_succ]
          refine takeE (i := 10) 52 (v := undef) rfl rfl (fun _ _ _ h => h) (Or.inr ⟨by rfl, rfl⟩) HS1.out ?_
          try simp only [Act.put, List.setIfInBounds_toArray, List.set_cons_zero, List.set_cons_succ]
          refine takeE (i := 11) 53 (v := undef) rfl rfl (fun _ _ _ h => h) (Or.inr ⟨by rfl, rfl⟩) HS1.out ?_
          try simp only [Act.put, List.setIfInBounds_toArray, List.set_cons_zero, List.set_cons_succ]
          refine takeE (i := 12) 54 (v := undef) rfl rfl (fun _ _ _ h => h) (Or.inr ⟨by rfl, rfl⟩) HS1.out ?_
          try simp only [Act.put, List.setIfInBounds_toArray, List.set_cons_zero, List.set_cons_succ]
          refine takeE (i := 13) 55 (v := undef) rfl rfl (fun _ _ _ h => h) (Or.inr ⟨by rfl, rfl⟩) HS1.out ?_
          try simp only [Act.put, List.setIfInBounds_toArray, List.set_cons_zero, List.set_cons_succ]
          refine takeE (i := 14) 56 (v := undef) rfl rfl (fun _ _ _ h => h) (Or.inr ⟨by rfl, rfl⟩) HS1.out ?_
          try simp only [Act.put, List.setIfInBounds_toArray, List.set_cons_zero, List.set_cons_succ]
          refine wpAnyM_one (i := 15) (by kernel_rfl) rfl rfl ?_
          go_simp
          refine ⟨HS1.out, ?_⟩
          try simp only [Act.put, List.setIfInBounds_toArray, List.set_cons_zero, List.set_cons_succ]
          refine wpAnyM_one (i := 16) (by kernel_rfl) rfl rfl ?_
          go_simp
          refine ⟨HS1.out, ?_⟩
          try simp only [Act.put, List.setIfInBounds_toArray, List.set_cons_zero, List.set_cons_succ]
          refine wpAnyM_done (by kernel_rfl) ?_ _
          obtain ⟨_, _, _, _, _, _, _, _, _, _, _, _, _⟩ := HCE.out _ HY1.out
          cases late
          all_goals
            go_wp2_with fail
            refine (add_any2 _ la ga aI aE L o y1 HL1.out HSO.out (by have := HM6.out; omega)).mono ?_
            rintro e y2 ⟨rfl, hA, hb, hi⟩
            have HY2 : Hid (Below w.heap.size w y2) := Lib.hid (but_low hb HY1.out HY1.out.size HGE.out.1 HGE.out.2.1 HGE.out.2.2)
            have HLA := Lib.hid hA
            have HRA := Lib.hid (row_but3 HR1.out hb HLT.out.1 HLT.out.2.1 HLT.out.2.2)
            have HIA := Lib.hid (hi _ HI1.out (own_lt HR1.out))
            have HZA : Hid (x2.heap.size ≤ y2.heap.size ∧ True) := Lib.hid ⟨Nat.le_trans HZ1.out.1 hb.size, trivial⟩
            clear hA hb hi
            obtain ⟨_, _, _, _, _, _, _, _, _, _, _, _, _⟩ := HCE.out _ HY2.out
            go_wp2_with (at_builtin; refine wpList_append_lies _ rfl _ _ 40 rfl x2.heap.size 47 i0 _ 13 128 Tryz.underlying40 hinf hz0 hz1 hz2 rfl (by decide) _ _ _ rfl (World.ownsRow.alloc HRA.out _) ⟨y2.heap.size, 0, none⟩ 1 1 o.cells rfl rfl (box_cells (by rw [World.alloc_heap_new]; rfl)) (fun u hu => Op.one o u hu) (by decide) (by have := HM6.out; simp only [maxLen]; omega) (by have := HM6.out; omega) (by have := HZA.out.1; simp only [World.size_alloc]; omega) _ rfl ?_; intro gn capn wn hown' hgrow hor hltn; have HO := Lib.hid hown'; have HGW := Lib.hid hgrow; have HOR := Lib.hid hor; clear hown' hgrow hor hltn)
            go_roundg (M - (i + 1))
            case measure => omega
            case rel => exact (by
              have hbl2 : Below y2.heap.size y2 (y2.alloc (.cells #[.int .i64 o.stamp.t, .int .i64 o.stamp.r, .int .i64 o.kind, .int .i64 o.at_.t, .int .i64 o.at_.r, .int .i64 o.ino.t, .int .i64 o.ino.r, .int .i64 o.to.t, .int .i64 o.to.r, .string o.name, .string o.new, .int .i64 o.off, .string o.data] 47)) := (Below.refl _ _).alloc (Nat.le_refl _) _
              have hlg := HLA.out.below hbl2
              have hin : OpsIn (y2.alloc (.cells #[.int .i64 o.stamp.t, .int .i64 o.stamp.r, .int .i64 o.kind, .int .i64 o.at_.t, .int .i64 o.at_.r, .int .i64 o.ino.t, .int .i64 o.ino.r, .int .i64 o.to.t, .int .i64 o.to.r, .string o.name, .string o.new, .int .i64 o.off, .string o.data] 47)) la (fun j => (Value.slice ra all.length rc).ownBlock ≠ some j) := HIA.out.to (hbl2.cell (p := ⟨la, 4, none⟩) HLA.out.lt.1) fun _ h => h
              have hrw := World.ownsRow.alloc HRA.out (.cells #[.int .i64 o.stamp.t, .int .i64 o.stamp.r, .int .i64 o.kind, .int .i64 o.at_.t, .int .i64 o.at_.r, .int .i64 o.ino.t, .int .i64 o.ino.r, .int .i64 o.to.t, .int .i64 o.to.r, .string o.name, .string o.new, .int .i64 o.off, .string o.data] 47)
              have hll := HLT.out
              have hlb : (Value.slice ra all.length rc).ownBlock ≠ some la := fun e => by have := rowGe hrw e; omega
              have hcl : wn.cell? ⟨la, 4, none⟩ = _ := HGW.out.cell_far ⟨la, 4, none⟩ hlg.lt.1 fun e => hlb e.symm
              refine ⟨i + 1, all ++ [o], _, L.add o, by first | rfl | go_num, by first | rfl | go_num, by omega, by omega, (by rw [add_len]; split <;> omega), (by rw [List.length_append, List.length_singleton]; omega), (show Aside _ from ?_), (show Aside _ from LogAt.grown hlg hrw hin HGW.out), (show Aside _ from OpsIn.grown hlg hin hcl HOR.out rfl), (show Aside _ from ⟨?_, ?_⟩), (show Aside _ from ⟨?_, ?_⟩)⟩
              · show wn.ownsRow _ _ _ _ _ _
                rw [List.length_append, List.flatMap_append, List.flatMap_cons, List.flatMap_nil, List.append_nil]
                exact HO.out
              · first
                  | exact fun h => Bool.noConfusion h
                  | exact fun h => (HP0.out.1 (by first | trivial | rfl)).add o (HLW.out (by first | exact h | trivial))
              · intro x hx
                rcases List.mem_append.1 hx with hx | hx
                · exact HP0.out.2 x hx
                · rw [List.mem_singleton.1 hx]; exact HSO.out
              · exact (HY2.out.alloc HY2.out.size _).trans (grownBy_below HGW.out (by have := HY2.out.size; simp only [World.size_alloc]; omega) (fun k e => by have := rowGe hrw e; have := HX2.out.size; omega))
              · have hs1 := HGW.out.size; have hs2 := HZA.out.1; simp only [World.size_alloc] at hs1; omega)
        · clear hne
          go_wp2_with fail
          refine wp_region_M [] (S := (Cel xb (xo + i * 14) o)) (by kernel_rfl) ?_
          refine takeE (i := 0) 42 (v := ?vb0) rfl rfl (fun _ _ _ h => h) (Or.inl ⟨by rfl, ?hb0⟩) HSD.out ?rb0
          case hb0 => intro W _; go_simp; first | done | with_reducible rfl
          try simp only [Act.put, List.setIfInBounds_toArray, List.set_cons_zero, List.set_cons_succ]
          refine takeE (i := 2) 44 (v := ?vb2) rfl rfl (fun _ _ _ h => h) (Or.inl ⟨by rfl, ?hb2⟩) HSD.out ?rb2
          case hb2 => intro W _; go_simp; first | done | with_reducible rfl
          try simp only [Act.put, List.setIfInBounds_toArray, List.set_cons_zero, List.set_cons_succ]
          refine wpAnyM_oneG (i := 1) (by kernel_rfl) rfl (by rfl) ?_
          go_simp
          refine Calls.mono (floor_l _ la ga aI aE L wr.drew (HL0.out.below (Below.refl _ _).drew)) ?_
          rintro e y1 ⟨rfl, hb0⟩
          have HY1 : Hid (Below w.heap.size w y1) := Lib.hid ((HY0.out.trans ((Below.refl _ _).drew.mono HY0.out.size)).trans (hb0.mono HY0.out.drew.size))
          have hb := ((Below.refl _ wr).drew).trans hb0
          clear hb0
          have HL1 := Lib.hid (HL0.out.below hb)
          have HR1 := Lib.hid (HR0.out.kept hb)
          have HI1 := Lib.hid (HI0.out.to (hb.cell (p := ⟨la, 4, none⟩) HL0.out.lt.1) fun _ h => h)
          have HZ1 : Hid (x2.heap.size ≤ y1.heap.size ∧ True) := Lib.hid ⟨Nat.le_trans HZ0.out.1 hb.size, trivial⟩
          clear hb
          unfold St.v
          have HS1 := Lib.hid (HCE.out _ HY1.out)
          refine ⟨HCE.out _ HY1.out, ?_⟩
          try simp only [Act.put, List.setIfInBounds_toArray, List.set_cons_zero, List.set_cons_succ]
          refine takeE (i := 3) 45 (v := ?vb3) rfl rfl (fun _ _ _ h => h) (Or.inl ⟨by rfl, ?hb3⟩) HS1.out ?rb3
          case hb3 => intro W _; go_simp; first | done | with_reducible rfl
          try simp only [Act.put, List.setIfInBounds_toArray, List.set_cons_zero, List.set_cons_succ]
          refine takeE (i := 4) 46 (v := ?vb4) rfl rfl (fun _ _ _ h => h) (Or.inl ⟨by rfl, ?hb4⟩) HS1.out ?rb4
          case hb4 => intro W _; go_simp; first | done | with_reducible rfl
          try simp only [Act.put, List.setIfInBounds_toArray, List.set_cons_zero, List.set_cons_succ]
          refine takeE (i := 5) 47 (v := ?vb5) rfl rfl (fun _ _ _ h => h) (Or.inl ⟨by rfl, ?hb5⟩) HS1.out ?rb5
          case hb5 => intro W _; go_simp; first | done | with_reducible rfl
          try simp only [Act.put, List.setIfInBounds_toArray, List.set_cons_zero, List.set_cons_succ]
          refine takeE (i := 6) 48 (v := ?vb6) rfl rfl (fun _ _ _ h => h) (Or.inl ⟨by rfl, ?hb6⟩) HS1.out ?rb6
          case hb6 => intro W _; go_simp; first | done | with_reducible rfl
          try simp only [Act.put, List.setIfInBounds_toArray, List.set_cons_zero, List.set_cons_succ]
          refine takeE (i := 7) 49 (v := ?vb7) rfl rfl (fun _ _ _ h => h) (Or.inl ⟨by rfl, ?hb7⟩) HS1.out ?rb7
          case hb7 => intro W _; go_simp; first | done | with_reducible rfl
          try simp only [Act.put, List.setIfInBounds_toArray, List.set_cons_zero, List.set_cons_succ]
          refine takeE (i := 8) 50 (v := ?vb8) rfl rfl (fun _ _ _ h => h) (Or.inl ⟨by rfl, ?hb8⟩) HS1.out ?rb8
          case hb8 => intro W _; go_simp; first | done | with_reducible rfl
          try simp only [Act.put, List.setIfInBounds_toArray, List.set_cons_zero, List.set_cons_succ]
          refine takeE (i := 9) 51 (v := ?vb9) rfl rfl (fun _ _ _ h => h) (Or.inl ⟨by rfl, ?hb9⟩) HS1.out ?rb9
          case hb9 => intro W _; go_simp; first | done | with_reducible rfl
          try simp only [Act.put, List.setIfInBounds_toArray, List.set_cons_zero, List.set_cons_succ]
          refine takeE (i := 10) 52 (v := ?vb10) rfl rfl (fun _ _ _ h => h) (Or.inl ⟨by rfl, ?hb10⟩) HS1.out ?rb10
          case hb10 => intro W hSW; obtain ⟨_, _, _, _, _, _, _, _, _, _, _, _, _⟩ := hSW; go_simp; first | done | with_reducible rfl
          try simp only [Act.put, List.setIfInBounds_toArray, List.set_cons_zero, List.set_cons_succ]
          refine takeE (i := 11) 53 (v := ?vb11) rfl rfl (fun _ _ _ h => h) (Or.inl ⟨by rfl, ?hb11⟩) HS1.out ?rb11
          case hb11 => intro W _; go_simp; first | done | with_reducible rfl
          try simp only [Act.put, List.setIfInBounds_toArray, List.set_cons_zero, List.set_cons_succ]
          refine wpAnyM_oneG (i := 12) (by kernel_rfl) rfl (by rfl) ?_
          go_simp
          refine Calls.mono (floor_l _ la ga aI aE L y1 HL1.out) ?_
          rintro e y2 ⟨rfl, hb⟩
          have HY2 : Hid (Below w.heap.size w y2) := Lib.hid (HY1.out.trans (hb.mono HY1.out.size))
          have HL2 := Lib.hid (HL1.out.below hb)
          have HR2 := Lib.hid (HR1.out.kept hb)
          have HI2 := Lib.hid (HI1.out.to (hb.cell (p := ⟨la, 4, none⟩) HL1.out.lt.1) fun _ h => h)
          have HZ2 : Hid (x2.heap.size ≤ y2.heap.size ∧ True) := Lib.hid ⟨Nat.le_trans HZ1.out.1 hb.size, trivial⟩
          clear hb
          unfold St.v
          have HS2 := Lib.hid (HCE.out _ HY2.out)
          refine ⟨HCE.out _ HY2.out, ?_⟩
          try simp only [Act.put, List.setIfInBounds_toArray, List.set_cons_zero, List.set_cons_succ]
          refine wpAnyM_oneG (i := 13) (by kernel_rfl) rfl (by rfl) ?_
          go_simp
          refine Calls.mono (stCompare_any _ _ _ _ _) ?_
          rintro e y3 ⟨rfl, hn0⟩
          have HY3 : Hid (Below w.heap.size w y3) := Lib.hid (HY2.out.trans (hn0.below.mono HY2.out.size))
          have hb := hn0.below
          clear hn0
          have HL3 := Lib.hid (HL2.out.below hb)
          have HR3 := Lib.hid (HR2.out.kept hb)
          have HI3 := Lib.hid (HI2.out.to (hb.cell (p := ⟨la, 4, none⟩) HL2.out.lt.1) fun _ h => h)
          have HZ3 : Hid (x2.heap.size ≤ y3.heap.size ∧ True) := Lib.hid ⟨Nat.le_trans HZ2.out.1 hb.size, trivial⟩
          clear hb
          have HS3 := Lib.hid (HCE.out _ HY3.out)
          refine ⟨HCE.out _ HY3.out, ?_⟩
          try simp only [Act.put, List.setIfInBounds_toArray, List.set_cons_zero, List.set_cons_succ]
          refine takeE (i := 14) 56 (v := ?vb14) rfl rfl (fun _ _ _ h => h) (Or.inl ⟨by rfl, ?hb14⟩) HS3.out ?rb14
          case hb14 => intro W _; go_simp; first | done | with_reducible rfl
          try simp only [Act.put, List.setIfInBounds_toArray, List.set_cons_zero, List.set_cons_succ]
          refine wpAnyM_one (i := 15) (by kernel_rfl) rfl rfl ?_
          go_simp
          refine ⟨HS3.out, ?_⟩
          try simp only [Act.put, List.setIfInBounds_toArray, List.set_cons_zero, List.set_cons_succ]
          refine wpAnyM_one (i := 16) (by kernel_rfl) rfl rfl ?_
          go_simp
          refine ⟨HS3.out, ?_⟩
          try simp only [Act.put, List.setIfInBounds_toArray, List.set_cons_zero, List.set_cons_succ]
          refine wpAnyM_done (by kernel_rfl) ?_ _
          obtain ⟨_, _, _, _, _, _, _, _, _, _, _, _, _⟩ := HCE.out _ HY3.out
          cases late
          all_goals
            go_wp2_with fail
            refine (add_any2 _ la ga aI aE L o y3 HL3.out HSO.out (by have := HM6.out; omega)).mono ?_
            rintro e y4 ⟨rfl, hA, hb, hi⟩
            have HY4 : Hid (Below w.heap.size w y4) := Lib.hid (but_low hb HY3.out HY3.out.size HGE.out.1 HGE.out.2.1 HGE.out.2.2)
            have HLA := Lib.hid hA
            have HRA := Lib.hid (row_but3 HR3.out hb HLT.out.1 HLT.out.2.1 HLT.out.2.2)
            have HIA := Lib.hid (hi _ HI3.out (own_lt HR3.out))
            have HZA : Hid (x2.heap.size ≤ y4.heap.size ∧ True) := Lib.hid ⟨Nat.le_trans HZ3.out.1 hb.size, trivial⟩
            clear hA hb hi
            obtain ⟨_, _, _, _, _, _, _, _, _, _, _, _, _⟩ := HCE.out _ HY4.out
            go_wp2_with (at_builtin; refine wpList_append_lies _ rfl _ _ 40 rfl x2.heap.size 47 i0 _ 13 128 Tryz.underlying40 hinf hz0 hz1 hz2 rfl (by decide) _ _ _ rfl (World.ownsRow.alloc HRA.out _) ⟨y4.heap.size, 0, none⟩ 1 1 o.cells rfl rfl (box_cells (by rw [World.alloc_heap_new]; rfl)) (fun u hu => Op.one o u hu) (by decide) (by have := HM6.out; simp only [maxLen]; omega) (by have := HM6.out; omega) (by have := HZA.out.1; simp only [World.size_alloc]; omega) _ rfl ?_; intro gn capn wn hown' hgrow hor hltn; have HO := Lib.hid hown'; have HGW := Lib.hid hgrow; have HOR := Lib.hid hor; clear hown' hgrow hor hltn)
            go_roundg (M - (i + 1))
            case measure => omega
            case rel => exact (by
              have hbl2 : Below y4.heap.size y4 (y4.alloc (.cells #[.int .i64 o.stamp.t, .int .i64 o.stamp.r, .int .i64 o.kind, .int .i64 o.at_.t, .int .i64 o.at_.r, .int .i64 o.ino.t, .int .i64 o.ino.r, .int .i64 o.to.t, .int .i64 o.to.r, .string o.name, .string o.new, .int .i64 o.off, .string o.data] 47)) := (Below.refl _ _).alloc (Nat.le_refl _) _
              have hlg := HLA.out.below hbl2
              have hin : OpsIn (y4.alloc (.cells #[.int .i64 o.stamp.t, .int .i64 o.stamp.r, .int .i64 o.kind, .int .i64 o.at_.t, .int .i64 o.at_.r, .int .i64 o.ino.t, .int .i64 o.ino.r, .int .i64 o.to.t, .int .i64 o.to.r, .string o.name, .string o.new, .int .i64 o.off, .string o.data] 47)) la (fun j => (Value.slice ra all.length rc).ownBlock ≠ some j) := HIA.out.to (hbl2.cell (p := ⟨la, 4, none⟩) HLA.out.lt.1) fun _ h => h
              have hrw := World.ownsRow.alloc HRA.out (.cells #[.int .i64 o.stamp.t, .int .i64 o.stamp.r, .int .i64 o.kind, .int .i64 o.at_.t, .int .i64 o.at_.r, .int .i64 o.ino.t, .int .i64 o.ino.r, .int .i64 o.to.t, .int .i64 o.to.r, .string o.name, .string o.new, .int .i64 o.off, .string o.data] 47)
              have hll := HLT.out
              have hlb : (Value.slice ra all.length rc).ownBlock ≠ some la := fun e => by have := rowGe hrw e; omega
              have hcl : wn.cell? ⟨la, 4, none⟩ = _ := HGW.out.cell_far ⟨la, 4, none⟩ hlg.lt.1 fun e => hlb e.symm
              refine ⟨i + 1, all ++ [o], _, L.add o, by first | rfl | go_num, by first | rfl | go_num, by omega, by omega, (by rw [add_len]; split <;> omega), (by rw [List.length_append, List.length_singleton]; omega), (show Aside _ from ?_), (show Aside _ from LogAt.grown hlg hrw hin HGW.out), (show Aside _ from OpsIn.grown hlg hin hcl HOR.out rfl), (show Aside _ from ⟨?_, ?_⟩), (show Aside _ from ⟨?_, ?_⟩)⟩
              · show wn.ownsRow _ _ _ _ _ _
                rw [List.length_append, List.flatMap_append, List.flatMap_cons, List.flatMap_nil, List.append_nil]
                exact HO.out
              · first
                  | exact fun h => Bool.noConfusion h
                  | exact fun h => (HP0.out.1 (by first | trivial | rfl)).add o (HLW.out (by first | exact h | trivial))
              · intro x hx
                rcases List.mem_append.1 hx with hx | hx
                · exact HP0.out.2 x hx
                · rw [List.mem_singleton.1 hx]; exact HSO.out
              · exact (HY4.out.alloc HY4.out.size _).trans (grownBy_below HGW.out (by have := HY4.out.size; simp only [World.size_alloc]; omega) (fun k e => by have := rowGe hrw e; have := HX2.out.size; omega))
              · have hs1 := HGW.out.size; have hs2 := HZA.out.1; simp only [World.size_alloc] at hs1; omega)
        · rw [hF] at hcl
          clear hne
          go_wp2_with fail
          refine wp_region_M [] (S := (Cel xb (xo + i * 14) o)) (by kernel_rfl) ?_
          refine takeE (i := 0) 42 (v := ?vc0) rfl rfl (fun _ _ _ h => h) (Or.inl ⟨by rfl, ?hc0⟩) HSD.out ?rc0
          case hc0 => intro W _; go_simp; first | done | with_reducible rfl
          try simp only [Act.put, List.setIfInBounds_toArray, List.set_cons_zero, List.set_cons_succ]
          refine takeE (i := 2) 44 (v := ?vc2) rfl rfl (fun _ _ _ h => h) (Or.inl ⟨by rfl, ?hc2⟩) HSD.out ?rc2
          case hc2 => intro W _; go_simp; first | done | with_reducible rfl
          try simp only [Act.put, List.setIfInBounds_toArray, List.set_cons_zero, List.set_cons_succ]
          refine wpAnyM_oneG (i := 1) (by kernel_rfl) rfl (by rfl) ?_
          go_simp
          refine Calls.mono (floor_l _ la ga aI aE L wr.drew (HL0.out.below (Below.refl _ _).drew)) ?_
          rintro e y1 ⟨rfl, hb0⟩
          have HY1 : Hid (Below w.heap.size w y1) := Lib.hid ((HY0.out.trans ((Below.refl _ _).drew.mono HY0.out.size)).trans (hb0.mono HY0.out.drew.size))
          have hb := ((Below.refl _ wr).drew).trans hb0
          clear hb0
          have HL1 := Lib.hid (HL0.out.below hb)
          have HR1 := Lib.hid (HR0.out.kept hb)
          have HI1 := Lib.hid (HI0.out.to (hb.cell (p := ⟨la, 4, none⟩) HL0.out.lt.1) fun _ h => h)
          have HZ1 : Hid (x2.heap.size ≤ y1.heap.size ∧ True) := Lib.hid ⟨Nat.le_trans HZ0.out.1 hb.size, trivial⟩
          clear hb
          rw [hF]
          unfold St.v
          have HS1 := Lib.hid (HCE.out _ HY1.out)
          refine ⟨HCE.out _ HY1.out, ?_⟩
          try simp only [Act.put, List.setIfInBounds_toArray, List.set_cons_zero, List.set_cons_succ]
          refine takeE (i := 3) 45 (v := ?vc3) rfl rfl (fun _ _ _ h => h) (Or.inl ⟨by rfl, ?hc3⟩) HS1.out ?rc3
          case hc3 => intro W _; go_simp; first | done | with_reducible rfl
          try simp only [Act.put, List.setIfInBounds_toArray, List.set_cons_zero, List.set_cons_succ]
          refine takeE (i := 4) 46 (v := ?vc4) rfl rfl (fun _ _ _ h => h) (Or.inl ⟨by rfl, ?hc4⟩) HS1.out ?rc4
          case hc4 => intro W _; go_simp; first | done | with_reducible rfl
          try simp only [Act.put, List.setIfInBounds_toArray, List.set_cons_zero, List.set_cons_succ]
          refine takeE (i := 5) 47 (v := ?vc5) rfl rfl (fun _ _ _ h => h) (Or.inl ⟨by rfl, ?hc5⟩) HS1.out ?rc5
          case hc5 => intro W _; go_simp; first | done | with_reducible rfl
          try simp only [Act.put, List.setIfInBounds_toArray, List.set_cons_zero, List.set_cons_succ]
          refine takeE (i := 6) 48 (v := ?vc6) rfl rfl (fun _ _ _ h => h) (Or.inl ⟨by rfl, ?hc6⟩) HS1.out ?rc6
          case hc6 => intro W _; go_simp; first | done | with_reducible rfl
          try simp only [Act.put, List.setIfInBounds_toArray, List.set_cons_zero, List.set_cons_succ]
          refine takeE (i := 7) 49 (v := ?vc7) rfl rfl (fun _ _ _ h => h) (Or.inl ⟨by rfl, ?hc7⟩) HS1.out ?rc7
          case hc7 => intro W _; go_simp; first | done | with_reducible rfl
          try simp only [Act.put, List.setIfInBounds_toArray, List.set_cons_zero, List.set_cons_succ]
          refine takeE (i := 8) 50 (v := ?vc8) rfl rfl (fun _ _ _ h => h) (Or.inl ⟨by rfl, ?hc8⟩) HS1.out ?rc8
          case hc8 => intro W _; go_simp; first | done | with_reducible rfl
          try simp only [Act.put, List.setIfInBounds_toArray, List.set_cons_zero, List.set_cons_succ]
          refine takeE (i := 9) 51 (v := ?vc9) rfl rfl (fun _ _ _ h => h) (Or.inl ⟨by rfl, ?hc9⟩) HS1.out ?rc9
          case hc9 => intro W _; go_simp; first | done | with_reducible rfl
          try simp only [Act.put, List.setIfInBounds_toArray, List.set_cons_zero, List.set_cons_succ]
          refine takeE (i := 10) 52 (v := ?vc10) rfl rfl (fun _ _ _ h => h) (Or.inl ⟨by rfl, ?hc10⟩) HS1.out ?rc10
          case hc10 => intro W hSW; obtain ⟨_, _, _, _, _, _, _, _, _, _, _, _, _⟩ := hSW; go_simp; first | done | with_reducible rfl
          try simp only [Act.put, List.setIfInBounds_toArray, List.set_cons_zero, List.set_cons_succ]
          refine takeE (i := 11) 53 (v := ?vc11) rfl rfl (fun _ _ _ h => h) (Or.inl ⟨by rfl, ?hc11⟩) HS1.out ?rc11
          case hc11 => intro W _; go_simp; first | done | with_reducible rfl
          try simp only [Act.put, List.setIfInBounds_toArray, List.set_cons_zero, List.set_cons_succ]
          refine wpAnyM_oneG (i := 12) (by kernel_rfl) rfl (by rfl) ?_
          go_simp
          refine Calls.mono (floor_l _ la ga aI aE L y1 HL1.out) ?_
          rintro e y2 ⟨rfl, hb⟩
          have HY2 : Hid (Below w.heap.size w y2) := Lib.hid (HY1.out.trans (hb.mono HY1.out.size))
          have HL2 := Lib.hid (HL1.out.below hb)
          have HR2 := Lib.hid (HR1.out.kept hb)
          have HI2 := Lib.hid (HI1.out.to (hb.cell (p := ⟨la, 4, none⟩) HL1.out.lt.1) fun _ h => h)
          have HZ2 : Hid (x2.heap.size ≤ y2.heap.size ∧ True) := Lib.hid ⟨Nat.le_trans HZ1.out.1 hb.size, trivial⟩
          clear hb
          rw [hF]
          unfold St.v
          have HS2 := Lib.hid (HCE.out _ HY2.out)
          refine ⟨HCE.out _ HY2.out, ?_⟩
          try simp only [Act.put, List.setIfInBounds_toArray, List.set_cons_zero, List.set_cons_succ]
          refine wpAnyM_oneG (i := 13) (by kernel_rfl) rfl (by rfl) ?_
          go_simp
          refine Calls.mono (stCompare_any _ _ _ _ _) ?_
          rintro e y3 ⟨rfl, hn0⟩
          have HY3 : Hid (Below w.heap.size w y3) := Lib.hid (HY2.out.trans (hn0.below.mono HY2.out.size))
          have hb := hn0.below
          clear hn0
          have HL3 := Lib.hid (HL2.out.below hb)
          have HR3 := Lib.hid (HR2.out.kept hb)
          have HI3 := Lib.hid (HI2.out.to (hb.cell (p := ⟨la, 4, none⟩) HL2.out.lt.1) fun _ h => h)
          have HZ3 : Hid (x2.heap.size ≤ y3.heap.size ∧ True) := Lib.hid ⟨Nat.le_trans HZ2.out.1 hb.size, trivial⟩
          clear hb
          have HS3 := Lib.hid (HCE.out _ HY3.out)
          refine ⟨HCE.out _ HY3.out, ?_⟩
          try simp only [Act.put, List.setIfInBounds_toArray, List.set_cons_zero, List.set_cons_succ]
          refine takeE (i := 14) 56 (v := ?vc14) rfl rfl (fun _ _ _ h => h) (Or.inl ⟨by rfl, ?hc14⟩) HS3.out ?rc14
          case hc14 => intro W _; go_simp; first | done | with_reducible rfl
          try simp only [Act.put, List.setIfInBounds_toArray, List.set_cons_zero, List.set_cons_succ]
          refine wpAnyM_one (i := 15) (by kernel_rfl) rfl rfl ?_
          go_simp
          refine ⟨HS3.out, ?_⟩
          try simp only [Act.put, List.setIfInBounds_toArray, List.set_cons_zero, List.set_cons_succ]
          refine wpAnyM_one (i := 16) (by kernel_rfl) rfl rfl ?_
          go_simp
          refine ⟨HS3.out, ?_⟩
          try simp only [Act.put, List.setIfInBounds_toArray, List.set_cons_zero, List.set_cons_succ]
          refine wpAnyM_done (by kernel_rfl) ?_ _
          obtain ⟨_, _, _, _, _, _, _, _, _, _, _, _, _⟩ := HCE.out _ HY3.out
          cases late
          all_goals
            go_wp2_with fail
            refine (add_any2 _ la ga aI aE L o y3 HL3.out HSO.out (by have := HM6.out; omega)).mono ?_
            rintro e y4 ⟨rfl, hA, hb, hi⟩
            have HY4 : Hid (Below w.heap.size w y4) := Lib.hid (but_low hb HY3.out HY3.out.size HGE.out.1 HGE.out.2.1 HGE.out.2.2)
            have HLA := Lib.hid hA
            have HRA := Lib.hid (row_but3 HR3.out hb HLT.out.1 HLT.out.2.1 HLT.out.2.2)
            have HIA := Lib.hid (hi _ HI3.out (own_lt HR3.out))
            have HZA : Hid (x2.heap.size ≤ y4.heap.size ∧ True) := Lib.hid ⟨Nat.le_trans HZ3.out.1 hb.size, trivial⟩
            clear hA hb hi
            obtain ⟨_, _, _, _, _, _, _, _, _, _, _, _, _⟩ := HCE.out _ HY4.out
            go_wp2_with (at_builtin; refine wpList_append_lies _ rfl _ _ 40 rfl x2.heap.size 47 i0 _ 13 128 Tryz.underlying40 hinf hz0 hz1 hz2 rfl (by decide) _ _ _ rfl (World.ownsRow.alloc HRA.out _) ⟨y4.heap.size, 0, none⟩ 1 1 o.cells rfl rfl (box_cells (by rw [World.alloc_heap_new]; rfl)) (fun u hu => Op.one o u hu) (by decide) (by have := HM6.out; simp only [maxLen]; omega) (by have := HM6.out; omega) (by have := HZA.out.1; simp only [World.size_alloc]; omega) _ rfl ?_; intro gn capn wn hown' hgrow hor hltn; have HO := Lib.hid hown'; have HGW := Lib.hid hgrow; have HOR := Lib.hid hor; clear hown' hgrow hor hltn)
            go_roundg (M - (i + 1))
            case measure => omega
            case rel => exact (by
              have hbl2 : Below y4.heap.size y4 (y4.alloc (.cells #[.int .i64 o.stamp.t, .int .i64 o.stamp.r, .int .i64 o.kind, .int .i64 o.at_.t, .int .i64 o.at_.r, .int .i64 o.ino.t, .int .i64 o.ino.r, .int .i64 o.to.t, .int .i64 o.to.r, .string o.name, .string o.new, .int .i64 o.off, .string o.data] 47)) := (Below.refl _ _).alloc (Nat.le_refl _) _
              have hlg := HLA.out.below hbl2
              have hin : OpsIn (y4.alloc (.cells #[.int .i64 o.stamp.t, .int .i64 o.stamp.r, .int .i64 o.kind, .int .i64 o.at_.t, .int .i64 o.at_.r, .int .i64 o.ino.t, .int .i64 o.ino.r, .int .i64 o.to.t, .int .i64 o.to.r, .string o.name, .string o.new, .int .i64 o.off, .string o.data] 47)) la (fun j => (Value.slice ra all.length rc).ownBlock ≠ some j) := HIA.out.to (hbl2.cell (p := ⟨la, 4, none⟩) HLA.out.lt.1) fun _ h => h
              have hrw := World.ownsRow.alloc HRA.out (.cells #[.int .i64 o.stamp.t, .int .i64 o.stamp.r, .int .i64 o.kind, .int .i64 o.at_.t, .int .i64 o.at_.r, .int .i64 o.ino.t, .int .i64 o.ino.r, .int .i64 o.to.t, .int .i64 o.to.r, .string o.name, .string o.new, .int .i64 o.off, .string o.data] 47)
              have hll := HLT.out
              have hlb : (Value.slice ra all.length rc).ownBlock ≠ some la := fun e => by have := rowGe hrw e; omega
              have hcl : wn.cell? ⟨la, 4, none⟩ = _ := HGW.out.cell_far ⟨la, 4, none⟩ hlg.lt.1 fun e => hlb e.symm
              refine ⟨i + 1, all ++ [o], _, L.add o, by first | rfl | go_num, by first | rfl | go_num, by omega, by omega, (by rw [add_len]; split <;> omega), (by rw [List.length_append, List.length_singleton]; omega), (show Aside _ from ?_), (show Aside _ from LogAt.grown hlg hrw hin HGW.out), (show Aside _ from OpsIn.grown hlg hin hcl HOR.out rfl), (show Aside _ from ⟨?_, ?_⟩), (show Aside _ from ⟨?_, ?_⟩)⟩
              · show wn.ownsRow _ _ _ _ _ _
                rw [List.length_append, List.flatMap_append, List.flatMap_cons, List.flatMap_nil, List.append_nil]
                exact HO.out
              · first
                  | exact fun h => Bool.noConfusion h
                  | exact fun h => (HP0.out.1 (by first | trivial | rfl)).add o (HLW.out (by first | exact h | trivial))
              · intro x hx
                rcases List.mem_append.1 hx with hx | hx
                · exact HP0.out.2 x hx
                · rw [List.mem_singleton.1 hx]; exact HSO.out
              · exact (HY4.out.alloc HY4.out.size _).trans (grownBy_below HGW.out (by have := HY4.out.size; simp only [World.size_alloc]; omega) (fun k e => by have := rowGe hrw e; have := HX2.out.size; omega))
              · have hs1 := HGW.out.size; have hs2 := HZA.out.1; simp only [World.size_alloc] at hs1; omega)
    · have hex : (decide (i < l.length) = false ∧ ¬ (i : Int) < (l.length : Int)) ∨ (decide (i < l.length) = true ∧ (i : Int) < (l.length : Int) ∧ decide (i < 60) = false ∧ ¬ (i : Int) < 60) := by
        rcases HMM.out with ⟨hM, hT⟩ | ⟨hM, hT⟩
        · exact .inl ⟨decide_eq_false (by omega), by omega⟩
        · exact .inr ⟨decide_eq_true (by omega), by omega, decide_eq_false (by omega), by omega⟩
      have HON : Hid (onOps L.base L.ops = L.g) := Lib.hid HL0.out.ok.on
      have hal60 : all.length ≤ 1000 := by have := HM6.out; omega
      clear hlt
      rcases hex with ⟨d1, c1⟩ | ⟨d1, c1, d2, c2⟩
      all_goals
        go_wp2_with fail
        refine (graph_l _ la ga aI aE L wr HL0.out).mono ?_
        rintro e y1 ⟨u, rfl, ⟨g1, i1, e1, rfl, hg, _, _, _⟩, hb⟩
        have HY1 : Hid (Below w.heap.size w y1) := Lib.hid (HY0.out.trans (hb.mono HY0.out.size))
        have HG1 := Lib.hid hg
        have HL1 := Lib.hid (HL0.out.below hb)
        have HR1 := Lib.hid (HR0.out.kept hb)
        clear hg hb
        go_wp2_with fail
        refine (base_l _ la ga aI aE L y1 HL1.out).mono ?_
        rintro e y2 ⟨u, rfl, ⟨g2, i2, e2, rfl, hg, _, _, _⟩, hb⟩
        have HY2 : Hid (Below w.heap.size w y2) := Lib.hid (HY1.out.trans (hb.mono HY1.out.size))
        have HG2 := Lib.hid hg
        have HG1b := Lib.hid (HG1.out.below hb)
        have HL2 := Lib.hid (HL1.out.below hb)
        have HR2 := Lib.hid (HR1.out.kept hb)
        clear hg hb
        go_wp2_with fail
        refine (ops_l _ la ga aI aE L y2 HL2.out).mono ?_
        rintro e y3 ⟨u, rfl, hr, hb⟩
        have HY3 : Hid (Below w.heap.size w y3) := Lib.hid (HY2.out.trans (hb.mono HY2.out.size))
        have HRO := Lib.hid hr
        obtain ⟨p3, q3, rfl⟩ := hr.shape
        have HG1c := Lib.hid (HG1b.out.below hb)
        have HG2c := Lib.hid (HG2.out.below hb)
        have HL3 := Lib.hid (HL2.out.below hb)
        have HR3 := Lib.hid (HR2.out.kept hb)
        clear hr hb
        go_wp2_with fail
        refine (on_any g2 i2 e2 L.base _ L.ops y3 HG2c.out HL0.out.ok.base HL0.out.ok.thin HRO.out.sl HL0.out.small (by have := HL0.out.few; omega)).mono ?_
        rintro e y4 ⟨u, rfl, ⟨g4, i4, e4, rfl, hg, _, _, _⟩, hb⟩
        have HY4 : Hid (Below w.heap.size w y4) := Lib.hid (HY3.out.trans (hb.mono HY3.out.size))
        rw [HON.out] at hg
        have HG4 := Lib.hid (hg.reads HOK.out (by have := HOK.out.few; omega))
        have HG1d := Lib.hid ((HG1c.out.below hb).reads HOK.out (by have := HOK.out.few; omega))
        have HL4 := Lib.hid (HL3.out.below hb)
        have HR4 := Lib.hid (HR3.out.kept hb)
        clear hg hb
        go_wp2_with fail
        refine (same_any g1 g4 L.g y4 HOK.out HG1d.out HG4.out).mono ?_
        rintro e y5 ⟨rfl, hb⟩
        have HY5 : Hid (Below w.heap.size w y5) := Lib.hid (HY4.out.trans (hb.mono HY4.out.size))
        have HL5 := Lib.hid (HL4.out.below hb)
        have HR5 := Lib.hid (HR4.out.kept hb)
        clear hb
        cases late with
        | true =>
          go_wp2
          go_ret
          exact ⟨rfl, HY5.out⟩
        | false =>
          have HALL : Hid (L.g = ofOps all) := Lib.hid (HP0.out.1 rfl).g
          go_wp2_with fail
          refine (graph_l _ la ga aI aE L y5 HL5.out).mono ?_
          rintro e y6 ⟨u, rfl, ⟨g6, i6, e6, rfl, hg, _, _, _⟩, hb⟩
          have HY6 : Hid (Below w.heap.size w y6) := Lib.hid (HY5.out.trans (hb.mono HY5.out.size))
          have HG6 := Lib.hid hg
          have HL6 := Lib.hid (HL5.out.below hb)
          have HR6 := Lib.hid (HR5.out.kept hb)
          clear hg hb
          go_wp2_with fail
          refine (of_any _ all y6 HR6.out.sl HP0.out.2 hal60).mono ?_
          rintro e y7 ⟨u, rfl, ⟨g7, i7, e7, rfl, hg, _, _, _⟩, hb⟩
          have HY7 : Hid (Below w.heap.size w y7) := Lib.hid (HY6.out.trans (hb.mono HY6.out.size))
          rw [← HALL.out] at hg
          have HG7 := Lib.hid (hg.reads HOK.out (by have := HOK.out.few; omega))
          have HG6b := Lib.hid ((HG6.out.below hb).reads HOK.out (by have := HOK.out.few; omega))
          clear hg hb
          go_wp2_with fail
          refine (same_any g6 g7 L.g y7 HOK.out HG6b.out HG7.out).mono ?_
          rintro e y8 ⟨rfl, hb⟩
          have HY8 : Hid (Below w.heap.size w y8) := Lib.hid (HY7.out.trans (hb.mono HY7.out.size))
          clear hb
          go_wp2
          go_ret
          exact ⟨rfl, HY8.out⟩

set_option maxRecDepth 100000 in
set_option maxHeartbeats 8000000 in
theorem theorem_walk (v : Value) (l : List DeedL) (w : World) (hs : SlAt w 14 DeedL.cells v l) (hn : ∀ d ∈ l, d.o.Small) :
    Calls Tryz.prog 15 #[v] w fun y w' => y = .returned (.bool true) ∧ Below w.heap.size w w' := by
  by_cases hl : l.length ≤ 60
  · exact theorem_M v l w hs hn l.length (.inl ⟨rfl, hl⟩)
  · exact theorem_M v l w hs hn 60 (.inr ⟨rfl, by omega⟩)
end Go.Proofs.YtlokljaeknmdpaaGreat.L14

/-! ## OpenL -/
namespace Go.Proofs.YtlokljaeknmdpaaGreat
open Go.RowKit Go.ChangeShapes Go.Deep

section
variable {H : Type} {enc : TypeId × Value → H} {w : World} {base : Nat} {spare : Nat → Bool} {held : Bool}
theorem open_truth {t : TypeId} {fuel : Nat} {cs : List Value} {x : DataW H × List MemPlace} (ht : Tryz.prog.underlying t = some .bool) (h : DataW.trod enc Tryz.prog w base spare held fuel t cs = some x) : ∃ b, cs = [.bool b] := by
  cases fuel with
  | zero => simp [DataW.trod] at h
  | succ n =>
    unfold DataW.trod at h
    rw [ht] at h
    split at h <;> simp_all
set_option maxRecDepth 100000 in
theorem open_dl {fuel : Nat} {cs : List Value} {x : DataW H × List MemPlace} (h : DataW.trod enc Tryz.prog w base spare held fuel 83 cs = some x) (hw : ∀ m ∈ x.1.weights Tryz.prog 83, m ≤ reachBytes) : ∃ z : DeedL, cs = z.cells ∧ z.o.Small := by
  obtain ⟨xs, n, _, hx, hl, hlen, hf⟩ := DataW.trod_struct Tryz.underlying83 h
  rw [show Tryz.prog.cellsOf 83 = 14 by kernel_rfl] at hl
  match xs, hlen with
  | [y0, y1], _ =>
    have h0 := hf 0 _ rfl
    have h1 := hf 1 _ rfl
    simp only [List.getElem?_cons_zero, List.getElem?_cons_succ] at h0 h1
    have hm : ∀ m ∈ y0.1.weights Tryz.prog 47, m ≤ reachBytes := by
      intro m hm
      refine hw m ?_
      rw [hx]
      simp only [DataW.weights, Tryz.underlying83]
      exact DataW.weights_mem_each (j := 0) (t := 47) (d := y0.1) rfl rfl m hm
    obtain ⟨o, e0, hs⟩ := open_op h0 hm
    obtain ⟨c, e1⟩ := open_truth Tryz.underlying4 h1
    refine ⟨⟨o, c⟩, ?_, hs⟩
    match cs, hl with
    | [c0, c1, c2, c3, c4, c5, c6, c7, c8, c9, c10, c11, c12, c13], _ =>
      have q0 : [c0, c1, c2, c3, c4, c5, c6, c7, c8, c9, c10, c11, c12] = o.cells := e0
      have q1 : [c13] = [.bool c] := e1
      show _ = o.cells ++ [.bool c]
      rw [← q0, ← q1]
      rfl
end
end Go.Proofs.YtlokljaeknmdpaaGreat
