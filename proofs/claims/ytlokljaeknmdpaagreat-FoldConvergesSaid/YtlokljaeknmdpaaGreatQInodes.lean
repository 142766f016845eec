/-
  graph.Inodes: the graph's inodes, rising, in a slice of the call's own; condition: at most 1000 of them.
-/
import Derived.Test.YtlokljaeknmdpaaGreatQGSort
import Derived.Test.YtlokljaeknmdpaaGreatQColl
import Derived.Test.YtlokljaeknmdpaaGreatQAudI
namespace Go.Proofs.YtlokljaeknmdpaaGreat
open Go.RowKit Go.Shelf

set_option maxRecDepth 100000 in
set_option maxHeartbeats 400000 in
theorem values_any (b : Nat) (w : World) :
    Calls Tryz.prog 74 #[.map (some b)] w fun e w' => e = .returned (.func (.func 130) #[] #[.pointer (some ⟨w.heap.size, 0, none⟩)]) ∧ Below w.heap.size w w' ∧ w'.cell? ⟨w.heap.size, 0, none⟩ = some (.map (some b)) := by
  go_enter Tryz.func74, Tryz.ntmps74
  go_wp2
  go_ret
  exact ⟨rfl, (Below.refl _ _).alloc (Nat.le_refl _) _, cell_new w _ rfl _ _ 0 _ rfl⟩

theorem values_stops (n : Nat) (hn : 1 ≤ n) (Bm b : Nat) (kv : List (St × Ino)) (w : World) (hBm : Bm < w.heap.size) (hm : w.cell? ⟨Bm, 0, none⟩ = some (.map (some b))) (hk : MapAt w b St.v Ino.v kv) (hb : b < w.heap.size) :
    SeqStopsK Fence.wide n Tryz.prog 130 #[.pointer (some ⟨Bm, 0, none⟩)] (fun x : Ino => #[x.v]) KeepsWalks (fun xs => xs.Perm (kv.map (·.2))) (fun _ => True) kv.length w := fun l J Jx W hW hJ _ hY h0 =>
  values1_in Fence.wide n trivial rfl hn l Bm b kv J Jx W hJ hY ((hW.cell (p := ⟨Bm, 0, none⟩) hBm).trans hm) (hk.below hW hb) h0

theorem appendSeq_any (w : World) (Bm b : Nat) (kv : List (St × Ino)) (hN : kv.length ≤ 1000) (hBm : Bm < w.heap.size) (hm : w.cell? ⟨Bm, 0, none⟩ = some (.map (some b))) (hk : MapAt w b St.v Ino.v kv) (hb : b < w.heap.size) :
    Calls Tryz.prog 163 #[.slice none 0 0, .func (.func 130) #[] #[.pointer (some ⟨Bm, 0, none⟩)]] w fun e w' => ∃ (v : Value) (xs : List Ino), e = .returned v ∧ xs.Perm (kv.map (·.2)) ∧ w'.ownsRow w.heap.size 62 6 v xs.length (xs.flatMap Ino.cells) ∧ Below w.heap.size w w' :=
  callsIn_wide.1 (appendSeq_in Fence.wide 4 trivial rfl (Nat.le_refl _) 130 #[.pointer (some ⟨Bm, 0, none⟩)] trivial (enters_of Tryz.func130 (by kernel_rfl) rfl) _ _ kv.length (by omega) w (values_stops 3 (by omega) Bm b kv w hBm hm hk hb))

set_option maxRecDepth 100000 in
set_option maxHeartbeats 400000 in
theorem collect_any (w : World) (Bm b : Nat) (kv : List (St × Ino)) (hN : kv.length ≤ 1000) (hBm : Bm < w.heap.size) (hm : w.cell? ⟨Bm, 0, none⟩ = some (.map (some b))) (hk : MapAt w b St.v Ino.v kv) (hb : b < w.heap.size) :
    Calls Tryz.prog 128 #[.func (.func 130) #[] #[.pointer (some ⟨Bm, 0, none⟩)]] w fun e w' => ∃ (v : Value) (xs : List Ino), e = .returned v ∧ xs.Perm (kv.map (·.2)) ∧ w'.ownsRow w.heap.size 62 6 v xs.length (xs.flatMap Ino.cells) ∧ Below w.heap.size w w' := by
  have HA := Lib.hid (appendSeq_any w Bm b kv hN hBm hm hk hb)
  clear hm hk
  go_enter Tryz.func128, Tryz.ntmps128
  go_wp2_with (go_at_call 163; refine HA.out.mono ?_; rintro e w' ⟨v, xs, rfl, h1, h2, h3⟩; have H1 := Lib.hid h1; have H2 := Lib.hid h2; have H3 := Lib.hid h3; clear h1 h2 h3)
  go_ret
  exact ⟨v, xs, rfl, H1.out, H2.out, H3.out⟩

set_option maxRecDepth 100000 in
set_option maxHeartbeats 400000 in
theorem sortedFunc_any (w : World) (Bm b : Nat) (kv : List (St × Ino)) (hN : kv.length ≤ 1000) (hBm : Bm < w.heap.size) (hm : w.cell? ⟨Bm, 0, none⟩ = some (.map (some b))) (hk : MapAt w b St.v Ino.v kv) (hb : b < w.heap.size) (hnd : (kv.map (·.2.id)).Nodup) :
    Calls Tryz.prog 73 #[.func (.func 130) #[] #[.pointer (some ⟨Bm, 0, none⟩)], .func (.func 75) #[] #[]] w fun e w' => ∃ (v : Value) (xs : List Ino), e = .returned v ∧ xs.Perm (kv.map (·.2)) ∧ RisesN xs ∧ w'.ownsRow w.heap.size 62 6 v xs.length (xs.flatMap Ino.cells) ∧ Below w.heap.size w w' := by
  have HA := Lib.hid (collect_any w Bm b kv hN hBm hm hk hb)
  have HSO : Hid (∀ v (xs : List Ino) (w' : World), xs.Perm (kv.map (·.2)) → w'.ownsRow w.heap.size 62 6 v xs.length (xs.flatMap Ino.cells) → Calls Tryz.prog 129 #[v, .func (.func 75) #[] #[]] w' fun e w2 => e = .returned (.tuple #[]) ∧ ∃ zs' : List Ino, zs'.Perm xs ∧ RisesN zs' ∧ w2.ownsRow w.heap.size 62 6 v zs'.length (zs'.flatMap Ino.cells) ∧ Below w.heap.size w' w2 ∧ w'.drawn ≤ w2.drawn) := Lib.hid fun v xs w' hp ho => by
    refine sortIno_any _ v xs w' ho (by have := hp.length_eq; simp at this; omega) ?_
    refine (hp.map Ino.id).nodup_iff.2 ?_
    rw [List.map_map]
    exact hnd
  clear hm hk hnd
  go_enter Tryz.func73, Tryz.ntmps73
  go_wp2_with (first
    | (go_at_call 129; refine (HS.out).mono ?_; rintro e w2 ⟨rfl, zs, h1, h2, h3, h4, _⟩; have G1 := Lib.hid h1; have G2 := Lib.hid h2; have G3 := Lib.hid h3; have G4 := Lib.hid h4; clear h1 h2 h3 h4)
    | (go_at_call 128; refine HA.out.mono ?_; rintro e w' ⟨v, xs, rfl, h1, h2, h3⟩; have H1 := Lib.hid h1; have H3 := Lib.hid h3; have HS := Lib.hid (HSO.out v xs w' h1 h2); clear h1 h2 h3))
  go_ret
  exact ⟨v, zs, rfl, G1.out.trans H1.out, G2.out, G3.out, H3.out.trans G4.out⟩

set_option maxRecDepth 100000 in
set_option maxHeartbeats 400000 in
theorem inodes_any (gb mI mE : Nat) (g : Gr) (w : World) (h : GrAt w gb mI mE g) (hs : RisesN g.n) (hl : g.n.length ≤ 1000) :
    Calls Tryz.prog 22 #[.pointer (some ⟨gb, 0, none⟩)] w fun e w' => ∃ v : Value, e = .returned v ∧ w'.ownsRow w.heap.size 62 6 v g.n.length (g.n.flatMap Ino.cells) ∧ Below w.heap.size w w' := by
  obtain ⟨c0, c1⟩ := h.cells
  have hlt := h.lt.1
  have hmI := h.lt.2.1
  obtain ⟨kv, hm, hp⟩ := h.nodes
  have hkl : kv.length ≤ 1000 := by rw [hp.length_eq]; simp [nodesKV]; exact hl
  have hnd : (kv.map (·.2.id)).Nodup := by
    rw [(hp.map _).nodup_iff]
    simp only [nodesKV, List.map_map]
    exact hs.nodup strictSt
  have HSF : Hid (∀ (W : World) Bm, Below w.heap.size w W → Bm < W.heap.size → W.cell? ⟨Bm, 0, none⟩ = some (.map (some mI)) → Calls Tryz.prog 73 #[.func (.func 130) #[] #[.pointer (some ⟨Bm, 0, none⟩)], .func (.func 75) #[] #[]] W fun e w' => ∃ (v : Value), e = .returned v ∧ w'.ownsRow W.heap.size 62 6 v g.n.length (g.n.flatMap Ino.cells) ∧ Below W.heap.size W w') := Lib.hid fun W Bm hW hB hc => by
    refine (sortedFunc_any W Bm mI kv hkl hB hc (hm.below hW hmI) (Nat.lt_of_lt_of_le hmI hW.size) hnd).mono ?_
    rintro e w' ⟨v, xs, he, h1, h2, h3, h4⟩
    have e2 : xs = g.n := by
      refine RisesK.eq strictSt h2 hs (h1.trans ?_)
      have := hp.map (·.2)
      rw [show (nodesKV g.n).map (·.2) = g.n by unfold nodesKV; rw [List.map_map]; exact List.map_id g.n] at this
      exact this
    subst e2
    exact ⟨v, he, h3, h4⟩
  clear hm hp hnd h c1
  go_enter Tryz.func22, Tryz.ntmps22
  go_wp2_with (first
    | (go_at_call 73; refine (HS.out).mono ?_; rintro e w2 ⟨v, rfl, h1, h2⟩; have H1 := Lib.hid h1; have H2 := Lib.hid h2; clear h1 h2)
    | (go_at_call 74; refine (values_any _ _).mono ?_; rintro e w' ⟨rfl, h1, h2⟩; have HB := Lib.hid h1; have HS := Lib.hid (HSF.out w' w.heap.size h1 (block_lt_of_cell h2) h2); clear h1 h2))
  go_ret
  exact ⟨v, rfl, ownsRow_mono H1.out HB.out.size, HB.out.trans (H2.out.mono HB.out.size)⟩

set_option maxRecDepth 100000 in
set_option maxHeartbeats 400000 in
theorem inodes_nil (w : World) : Calls Tryz.prog 22 #[.pointer none] w fun e w' => e = .returned (.slice none 0 0) ∧ w' = w := by
  go_enter Tryz.func22, Tryz.ntmps22
  go_wp2
  go_ret
  exact ⟨rfl, rfl⟩
end Go.Proofs.YtlokljaeknmdpaaGreat
