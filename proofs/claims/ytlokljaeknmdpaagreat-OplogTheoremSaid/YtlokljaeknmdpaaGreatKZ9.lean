/-
  The contracts of maps.Values at a graph's inodes, and of slices.Collect over it; condition: fewer inodes than the form's reach.
-/
import Derived.Test.YtlokljaeknmdpaaGreatKZ8
import Derived.RangeFuncNested
import Derived.RangeFuncLeaves
import Derived.Shelf.Abstract
import Derived.OwnWalkIn
import Derived.TacticsInMore
import Derived.LoopNIn
import Derived.LoopIn
/-! ## Coll -/
namespace Go.Proofs.YtlokljaeknmdpaaGreat
open Go.RowKit Go.Shelf

attribute [local go_sem] Oper.semAt_some

noncomputable def rangeLeft (w : World) (r b : Nat) : Nat :=
  match w.heap[r]?, w.heap[b]? with
  | some (.mapIter _ _ seen _), some (.map es _) => (es.toList.filter fun e => !seen.contains e.born).length
  | _, _ => 0
theorem rangeLeft_eq {K V : Type} {enc : K → Value} {encV : V → Value} {kv took : List (K × V)} {w : World} {r b n : Nat} (h : RangeAt w r b enc encV kv took n) : rangeLeft w r b = n := by
  obtain ⟨es, ck, seen, h1, h2, h3, h4, h5, h6⟩ := h
  have hl : es.toList.length = kv.length := by simpa using congrArg List.length h2
  unfold rangeLeft
  rw [h4, h1]
  simp only
  rw [← leftOf_fst (kv := kv) seen hl, List.length_map, h6]

theorem grownBy_drewN (W : World) (d : Nat) (row : Option Nat) : W.grownBy (W.drewN d) row := ⟨rfl, rfl, rfl, Nat.le_refl _, fun _ _ _ => rfl⟩
theorem abides_new {β : Type} {J : β → World → Prop} {B : Nat} (hJ : AbidesFrom B J) {s : β} {W : World} (h : J s W) (o : Obj) : J s (W.alloc o) :=
  hJ s W _ none h (World.grownBy_alloc W o none) (fun r e => by cases e)

set_option maxRecDepth 100000 in
set_option maxHeartbeats 1000000 in
theorem values1_in (F : Fence) (n : Nat) (hf : F.fn 130) (hro : F.round = none) (hn : 1 ≤ n) (l Bm b : Nat) (kv : List (St × Ino)) (J Jx : List Ino → World → Prop) (W : World)
    (hJ : AbidesFrom W.heap.size J)
    (hY : ∀ pre x W1, J pre W1 → pre.length < kv.length → YieldAt F (n - 1) Tryz.prog l #[x.v] W1 fun e W' =>
      (e = .returned (.bool true) ∧ J (pre ++ [x]) W' ∧ KeepsWalks W1 W') ∨ (e = .returned (.bool false) ∧ Jx (pre ++ [x]) W'))
    (hm : W.cell? ⟨Bm, 0, none⟩ = some (.map (some b))) (hk : MapAt W b St.v Ino.v kv) (h0 : J [] W) :
    CallsIn F n Tryz.prog 130 #[.func (.yield l) #[] #[], .pointer (some ⟨Bm, 0, none⟩)] W fun e W' => (∃ v, e = .returned v) ∧
      ((∃ xs, xs.Perm (kv.map (·.2)) ∧ J xs W') ∨ (∃ pre, True ∧ Jx pre W')) := by
  obtain ⟨w1, hrun, hN, hR0⟩ := run_range_kv (P := Tryz.prog) Tryz.underlying89 hk
  have hbl : b < W.heap.size := by obtain ⟨es, ck, h, _⟩ := hk; exact (Array.getElem?_eq_some_iff.1 h).1
  have hJ1 : J [] w1 := hJ [] W w1 none h0 ⟨hN.os, hN.tape, hN.output, hN.size, fun k hk _ => hN.block k hk⟩ (fun r e => by cases e)
  have HJ := Lib.hid hJ
  have HK := Lib.hid hk
  have HR0 := Lib.hid hR0
  have HJ1 := Lib.hid hJ1
  have HN := Lib.hid hN
  clear hJ hk hR0 h0 hJ1 hN
  refine callsIn_of_wp Tryz.func130 rfl hf ?_ hro
  simp only [Tryz.ntmps130, List.size_toArray, List.length_cons, List.length_nil, Nat.reduceAdd, Nat.reduceSub, Array.replicate_succ, Array.replicate_zero, List.push_toArray, List.append_toArray, List.nil_append, List.cons_append]
  gi_wp2
  gi_loopw [4] (fun _ wr => ∃ (took : List (St × Ino)) (k : Nat), Hid (RangeAt wr W.heap.size b St.v Ino.v kv took k) ∧ Hid (J (took.map (·.2)) wr) ∧ Hid (W.heap.size < wr.heap.size) ∧ took.length + k = kv.length) (fun _ wr => rangeLeft wr W.heap.size b)
  case atStart =>
    exact ⟨[], kv.length, HR0, HJ1, Lib.hid (by have := HN.out.size; have := (HR0.out).iter; obtain ⟨_, _, _, _, hi⟩ := this; exact (Array.getElem?_eq_some_iff.1 hi).1), by simp⟩
  case round =>
    obtain ⟨took, k, hR, hj, hlt, hlen⟩ := hrel
    cases k with
    | zero =>
      obtain ⟨hp, hnx⟩ := run_next_done (P := Tryz.prog) hR.out 0
      have hnx' : ∀ ty, (Instr.next (.pointer (some ⟨W.heap.size, 0, none⟩)) false ty).run Tryz.prog wr = .ok (.tuple #[.bool false]) wr := fun ty => (run_next_done (P := Tryz.prog) hR.out ty).2
      clear hnx hR
      gi_wp2
      go_end0
      exact ⟨⟨_, rfl⟩, .inl ⟨_, hp.map _, hj.out⟩⟩
    | succ k =>
      obtain ⟨p, d, o, hnx, ho, hen, hR2⟩ := run_next_step (P := Tryz.prog) hR.out
      obtain ⟨W2, hW2⟩ : ∃ W2, W2 = (wr.drewN d).putObj W.heap.size o := ⟨_, rfl⟩
      have hsz2 : W2.heap.size = wr.heap.size := by rw [hW2]; simp [World.drewN]
      have hj2 : J (took.map (·.2)) W2 := by
        rw [hW2]
        exact HJ.out _ _ _ (some W.heap.size) (HJ.out _ _ _ none hj.out (grownBy_drewN wr d none) (fun r e => by cases e)) (grownBy_putObj' _ _ _) (fun r e => by cases e; obtain ⟨m, s, q, l, hi⟩ := hR.out.iter; exact ⟨Nat.le_refl _, _, hi, rfl⟩)
      rw [← hW2] at hnx hen hR2
      have HX := Lib.hid hW2
      clear hW2
      have hne : W.heap.size ≠ b := by omega
      have hen' : (Instr.entry (.pointer (some ⟨W.heap.size, 0, none⟩))).run Tryz.prog W2 = .ok (.tuple #[.agg #[.int .i64 p.1.t, .int .i64 p.1.r], .agg #[.int .i64 p.2.id.t, .int .i64 p.2.id.r, .int .i64 p.2.kind, .int .i64 p.2.links, .int .i64 p.2.mode, .string p.2.data]]) W2 := hen hne
      have HR2 := Lib.hid (hR2 hne)
      have HRr := hR
      clear hen hR2 ho hR
      have hj3 : J (took.map (·.2)) (W2.alloc (.cells #[.int .i64 p.2.id.t, .int .i64 p.2.id.r, .int .i64 p.2.kind, .int .i64 p.2.links, .int .i64 p.2.mode, .string p.2.data] 62)) := abides_new HJ.out hj2 _
      have hlen' : (took.map (·.2)).length < kv.length := by simp; omega
      obtain ⟨fn, tmps, assign, body, hy, hRR⟩ := hY (took.map (·.2)) p.2 _ hj3 hlen'
      dsimp only [Ino.v] at hy
      gi_wp2
      refine hRR.mono ?_
      rintro e W4 (⟨rfl, hJ4, hk4⟩ | ⟨rfl, hJx4⟩)
      · have HJ4 := Lib.hid hJ4
        have HR4 : Hid (RangeAt W4 W.heap.size b St.v Ino.v kv (took ++ [p]) k) := by
          obtain ⟨m, s, q, l', hi⟩ := HR2.out.iter
          obtain ⟨es, ck, hes, _⟩ := HR2.out.map
          have h1 := (Array.getElem?_eq_some_iff.1 hi).1
          have h2 := (Array.getElem?_eq_some_iff.1 hes).1
          exact Lib.hid (HR2.out.kept
            ((hk4.2 b _ ((Below.heap_alloc W2 _ b h2).trans hes) rfl).trans hes.symm)
            ((hk4.2 _ _ ((Below.heap_alloc W2 _ _ h1).trans hi) rfl).trans hi.symm))
        have hsz4 : Hid (W.heap.size < W4.heap.size) := Lib.hid (by have := hk4.1; have := hlt.out; simp only [World.size_alloc] at *; omega)
        clear hJ4 hk4
        gi_wp2
        go_roundw
        case rel => exact ⟨took ++ [p], k, HR4, by rw [List.map_append]; exact HJ4, hsz4, by simp; omega⟩
        case measure => rw [rangeLeft_eq HR4.out, rangeLeft_eq HRr.out]; omega
      · gi_wp2
        refine bodyPost_ret (results_none rfl _ _ _) rfl ?_
        exact ⟨⟨_, rfl⟩, .inr ⟨_, trivial, hJx4⟩⟩

/-- a variable of several cells -/
theorem heapAt_own (B : Nat) (cs : Array Value) (t : TypeId) : Own (fun (_ : Unit) (W : World) => W.heap[B]? = some (.cells cs t (0, 0))) := by
  intro s W W' row h hg hr
  refine (hg.block B (Array.getElem?_eq_some_iff.1 h).1 fun e => ?_).trans h
  obtain ⟨o, ho, hc⟩ := hr B e.symm
  rw [h] at ho; cases ho; cases hc

theorem cells_new (w : World) (cs : List Value) (t : TypeId) : ∀ j u, cs[j]? = some u → (w.alloc (.cells cs.toArray t)).cell? ((⟨w.heap.size, 0, none⟩ : Addr).add j) = some u := by
  intro j u hj
  have e : ((⟨w.heap.size, 0, none⟩ : Addr).add j) = ⟨w.heap.size, j, none⟩ := by cases j <;> simp [Addr.add]
  have h := World.alloc_heap_new w (.cells cs.toArray t)
  rw [e]
  unfold World.cell?
  simp only [h]
  simpa using hj
theorem infoIno : (Tryz.prog.info? 62).map (fun i => (i.zero, i.size, i.bytes)) = some (some (.agg #[.int .i64 0, .int .i64 0, .int .i64 0, .int .i64 0, .int .i64 0, .string ⟨#[]⟩]), 6, 56) := by kernel_rfl

set_option maxRecDepth 100000 in
set_option maxHeartbeats 2000000 in
theorem appendSeq_in (F : Fence) (n : Nat) (hf : F.fn 163) (hro : F.round = none) (hn : 4 ≤ n) (g : Nat) (lb : Array Value) (hFg : F.fn g) (eg : ∀ args w, (callFunc g args).run Tryz.prog w = .ok (.enter g args) w)
    (S Sp : List Ino → Prop) (N : Nat) (hN : N ≤ 100000) (w : World) (hseq : SeqStopsK F (n - 1) Tryz.prog g lb (fun x : Ino => #[x.v]) KeepsWalks S Sp N w) :
    CallsIn F n Tryz.prog 163 #[.slice none 0 0, .func (.func g) #[] lb] w fun e w' => ∃ v xs, e = .returned v ∧ S xs ∧ w'.ownsRow w.heap.size 62 6 v xs.length (xs.flatMap Ino.cells) ∧ Below w.heap.size w w' := by
  have h1 : 1 ≤ n := by omega
  obtain ⟨i0, hinf, hz0, hz1, hz2⟩ := info_parts infoIno
  refine callsIn_of_wp_marks Tryz.func163 rfl hf ?_ hro
  simp only [Tryz.ntmps163, List.size_toArray, List.length_cons, List.length_nil, Nat.reduceAdd, Nat.reduceSub, Array.replicate_succ, Array.replicate_zero, List.push_toArray, List.append_toArray, List.nil_append, List.cons_append]
  gi_wp2
  have bS := Boxed.new w 36 (.slice none 0 0)
  obtain ⟨W0, hW0⟩ : ∃ W0, w.alloc (.cells #[.slice none 0 0] 36) = W0 := ⟨_, rfl⟩
  have hB0 : Below w.heap.size w W0 := by rw [← hW0]; exact (Below.refl _ w).alloc (Nat.le_refl _) _
  have hsz : W0.heap.size = w.heap.size + 1 := by rw [← hW0]; simp
  rw [hW0] at bS ⊢
  clear hW0
  refine wpIn_rangeFunc_ownH hro h1 (gf := g) (lb := lb) rfl hFg eg hseq walksK_t (walksK_b (w := W0)) hB0 (fun _ => rfl)
    (fun pre W => (∃ v, Boxed W w.heap.size 36 v ∧ W.ownsRow w.heap.size 62 6 v pre.length (pre.flatMap Ino.cells) ∧ True) ∧ Below w.heap.size w W)
    (fun _ _ _ => False)
    (OwnFrom.and (Own.from (holdsRow_own w.heap.size w.heap.size 36 62 6 (fun pre : List Ino => pre.length) (fun pre => pre.flatMap Ino.cells) (fun _ _ => True)) _) (ownFrom_below (Nat.le_refl _) (by omega)))
    (fun _ _ _ _ _ hs _ _ => hs)
    ⟨⟨_, bS, World.ownsRow_nil _ _ _ _, trivial⟩, hB0⟩
    (fun x a' W => ∃ Bx, W.heap[Bx]? = some (Obj.cells #[.int .i64 x.id.t, .int .i64 x.id.r, .int .i64 x.kind, .int .i64 x.links, .int .i64 x.mode, .string x.data] 62 (0, 0)) ∧ a' = { tmps := #[.slice none 0 0, .func (.func g) #[] lb, .pointer (some ⟨w.heap.size, 0, none⟩), undef, .slice none 0 0, .pointer (some ⟨Bx, 0, none⟩), .func (.func g) #[] lb, .agg #[.int .i64 x.id.t, .int .i64 x.id.r, .int .i64 x.kind, .int .i64 x.links, .int .i64 x.mode, .string x.data], undef, undef, undef, undef, undef], defers := [] })
    (fun x a' _ X Y row hs hg hr => by obtain ⟨Bx, h1, h2⟩ := hs; exact ⟨Bx, heapAt_own Bx #[.int .i64 x.id.t, .int .i64 x.id.r, .int .i64 x.kind, .int .i64 x.links, .int .i64 x.mode, .string x.data] 62 () X Y row h1 hg (fun r e => (hr r e).2), h2⟩)
    ?assign ?body ?done ?stop
  case assign =>
    rintro l pre x W K ⟨⟨v, bV, hrow, _⟩, hB1⟩ hK
    unfold Ino.v
    gi_wp2
    refine hK _ _ ((KeepsOthers.alloc _ _).from _) (KeepsWalks.alloc _ _) ⟨⟨v, bV.alloc _, hrow.alloc _, trivial⟩, hB1.alloc hB1.size _⟩ ⟨W.heap.size, World.alloc_heap_new W _, rfl⟩
  case body =>
    rintro l pre x a' W hl _ ⟨⟨v, bV, hrow, _⟩, hB1⟩ ⟨Bx, bX, rfl⟩ hlt
    have hsize := hB1.size
    have hc := bV.cell
    have hx0 : W.cell? ⟨Bx, 0, none⟩ = some (.int .i64 x.id.t) := by simp [World.cell?, bX]
    have hx1 : W.cell? ⟨Bx, 1, none⟩ = some (.int .i64 x.id.r) := by simp [World.cell?, bX]
    have hx2 : W.cell? ⟨Bx, 2, none⟩ = some (.int .i64 x.kind) := by simp [World.cell?, bX]
    have hx3 : W.cell? ⟨Bx, 3, none⟩ = some (.int .i64 x.links) := by simp [World.cell?, bX]
    have hx4 : W.cell? ⟨Bx, 4, none⟩ = some (.int .i64 x.mode) := by simp [World.cell?, bX]
    have hx5 : W.cell? ⟨Bx, 5, none⟩ = some (.string x.data) := by simp [World.cell?, bX]
    have hcn : ∀ j u, x.cells[j]? = some u → (W.alloc (.cells #[.int .i64 x.id.t, .int .i64 x.id.r, .int .i64 x.kind, .int .i64 x.links, .int .i64 x.mode, .string x.data] 62)).cell? ((⟨W.heap.size, 0, none⟩ : Addr).add j) = some u := cells_new W x.cells 62
    gi_wp2_with (gi_at_builtin; refine wpListIn_append_own _ rfl _ _ 36 rfl w.heap.size 62 i0 _ 6 56 Tryz.underlying36 hinf hz0 hz1 hz2 rfl (by decide) _ _ _ rfl (hrow.alloc _) ⟨W.heap.size, 0, none⟩ 1 1 x.cells rfl rfl hcn (by simp [Ino.cells, Value.oneCell']) (by simp only [maxLen]; omega) (by omega) (by simp; omega) ?_; intro v' w1 hown' hgrow _; obtain ⟨g', cap', rfl⟩ := ownsRow_succ hown'; obtain ⟨hv1, hv2, hr2, hk2, hb2⟩ := bV.appended (by decide) hrow hB1.size (Nat.le_refl _) hown' hgrow; have hc1 := hv1.cell; have hf1 := hv1.frozen)
    refine ⟨hk2.from _, hk2.walks, ⟨_, hv2, by simpa using hr2, trivial⟩, hB1.trans hb2⟩
  case done =>
    rintro D xs W hD hS ⟨⟨v, bV, hrow, _⟩, hB1⟩ hK
    have hc := bV.cell
    gi_wp2
    refine ⟨by simp, .inl ⟨_, _, rfl, run_takeDeferred hK, ?_⟩⟩
    exact ⟨_, results_tmp rfl _ _ _, v, xs, rfl, hS, ownsRow_putObj hrow _ hK rfl, hB1.trans (belowK_b (w := w) (Nat.le_refl _) W D _ _ (by omega) hK rfl rfl)⟩
  case stop =>
    rintro D c pre W _ _ h _
    exact h.elim
end Go.Proofs.YtlokljaeknmdpaaGreat
