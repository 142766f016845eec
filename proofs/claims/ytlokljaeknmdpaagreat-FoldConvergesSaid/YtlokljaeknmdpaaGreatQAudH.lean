/-
  The audit's made; condition: at most 1000 inodes and entries.
-/
import Derived.Test.YtlokljaeknmdpaaGreatQBack
import Derived.Test.YtlokljaeknmdpaaGreatQEntry
import Derived.Test.YtlokljaeknmdpaaGreatQAudG
namespace Go.Proofs.YtlokljaeknmdpaaGreat
open Go.RowKit Go.Shelf

attribute [local go_sem] Oper.semAt_some

/-- the kinds, when these have come -/
def kindsKV (pre : List (Int × Ino)) : List (St × Int) := pre.foldl (fun kv p => putKV p.2.id p.2.kind kv) []

theorem cell_at {W : World} {b : Nat} {cs : Array Value} {t : TypeId} {fz : Nat × Nat} (h : W.heap[b]? = some (.cells cs t fz)) (i : Nat) (v : Value) (hv : cs[i]? = some v) : W.cell? ⟨b, i, none⟩ = some v := by
  unfold World.cell?
  simp only [h]
  simpa using hv
theorem frozen_at {W : World} {b : Nat} {cs : Array Value} {t : TypeId} (h : W.heap[b]? = some (.cells cs t (0, 0))) (i : Nat) : W.frozen? ⟨b, i, none⟩ = false := by
  unfold World.frozen?
  simp only [h]
  simp

theorem heap_setCell_at {W : World} {B : Nat} {cs : Array Value} {t : TypeId} {fz : Nat × Nat} (h : W.heap[B]? = some (.cells cs t fz)) (i : Nat) (v : Value) : (W.setCell ⟨B, i, none⟩ v).heap[B]? = some (.cells (cs.setIfInBounds i v) t fz) := by
  obtain ⟨hlt, hk⟩ := Array.getElem?_eq_some_iff.1 h
  show (W.heap.modify B _)[B]? = _
  rw [Array.getElem?_eq_getElem (by rw [Array.size_modify]; exact hlt), Array.getElem_modify_self, hk]
  rfl

/-- what lies between two rounds of the first loop -/
structure MadeAt (w W0 : World) (vn ve : Value) (kl : List (St × Int)) (pre : List (Int × Ino)) (W : World) : Prop where
  below : Below w.heap.size w W
  size : W0.heap.size ≤ W.heap.size
  g0 : W.cell? ⟨w.heap.size + 1 + 1 + 1, 0, none⟩ = some vn
  g1 : W.cell? ⟨w.heap.size + 1 + 1 + 1, 1, none⟩ = some ve
  g2 : W.cell? ⟨w.heap.size + 1 + 1 + 1, 2, none⟩ = some (.map (some (w.heap.size + 1)))
  g3 : W.cell? ⟨w.heap.size + 1 + 1 + 1, 3, none⟩ = some (.map (some (w.heap.size + 1 + 1)))
  kinds : MapAt W (w.heap.size + 1) St.v intV (kindsKV pre)
  links : MapAt W (w.heap.size + 1 + 1) St.v intV kl
  res : ∃ r0 r1 r2 r3, W.heap[w.heap.size]? = some (.cells #[r0, r1, r2, r3] 98 (0, 0))

theorem heap_of_grown {W W' : World} {row : Option Nat} {B k : Nat} (hg : W.grownBy W' row) (hr : ∀ r, row = some r → B ≤ r) (hk : k < B) (hl : k < W.heap.size) : W'.heap[k]? = W.heap[k]? :=
  hg.block k hl (fun e => by have := hr k e.symm; omega)

theorem MadeAt.of_heap {w W0 : World} {vn ve : Value} {kl : List (St × Int)} {pre : List (Int × Ino)} {W W' : World} (h : MadeAt w W0 vn ve kl pre W) (hW0 : w.heap.size + 1 + 1 + 1 < W0.heap.size) (hb : Below w.heap.size w W') (hs : W0.heap.size ≤ W'.heap.size) (hk : ∀ k, k < W0.heap.size → W'.heap[k]? = W.heap[k]?) : MadeAt w W0 vn ve kl pre W' := by
  have hc : ∀ b i, b < W0.heap.size → W'.cell? ⟨b, i, none⟩ = W.cell? ⟨b, i, none⟩ := fun b i hb => World.cell?_of_block (hk b hb)
  refine ⟨hb, hs, (hc _ _ hW0).trans h.g0, (hc _ _ hW0).trans h.g1, (hc _ _ hW0).trans h.g2, (hc _ _ hW0).trans h.g3, ?_, ?_, ?_⟩
  · obtain ⟨es, ck, a, b, c⟩ := h.kinds
    exact ⟨es, ck, (hk _ (by omega)).trans a, b, c⟩
  · obtain ⟨es, ck, a, b, c⟩ := h.links
    exact ⟨es, ck, (hk _ (by omega)).trans a, b, c⟩
  · obtain ⟨r0, r1, r2, r3, a⟩ := h.res
    exact ⟨r0, r1, r2, r3, (hk _ (by omega)).trans a⟩

theorem madeAt_own (w W0 : World) (vn ve : Value) (hW0 : w.heap.size + 1 + 1 + 1 < W0.heap.size) : OwnFrom W0.heap.size (fun pre W => MadeAt w W0 vn ve [] pre W) := by
  intro pre W W' row h hg hr
  refine h.of_heap hW0 (h.below.grown hg h.below.size (fun k e => by have := (hr k e).1; omega)) (Nat.le_trans h.size hg.size) fun k hk => ?_
  exact heap_of_grown hg (fun r e => (hr r e).1) hk (by have := h.size; omega)

/-- slices.Backward's value -/
theorem backward_in (F : Fence) (n : Nat) (hf : F.fn 110) (hro : F.round = none) (a : Option Addr) (k c : Nat) (w : World) :
    CallsIn F n Tryz.prog 110 #[.slice a k c] w fun e w' => e = .returned (.func (.func 160) #[] #[.pointer (some ⟨w.heap.size, 0, none⟩)]) ∧ w' = w.alloc (.cells #[.slice a k c] 36) := by
  refine callsIn_of_wp Tryz.func110 rfl hf ?_ hro
  simp only [Tryz.ntmps110, List.size_toArray, List.length_cons, List.length_nil, Nat.reduceAdd, Nat.reduceSub, Array.replicate_succ, Array.replicate_zero, List.push_toArray, List.append_toArray, List.nil_append, List.cons_append]
  gi_wp2
  go_ret
  exact ⟨rfl, rfl⟩

theorem back_stops (F : Fence) (n : Nat) (hf : F.fn 160) (hro : F.round = none) (hn : 1 ≤ n) (Bn n₁ : Nat) (v : Value) (xs : List Ino) (w W0 : World) (hz : xs.length ≤ 1000) (hs : SlAt w 6 Ino.cells v xs) (hw : Below w.heap.size w W0) (hn1 : n₁ = W0.heap.size) (hBn : Bn < n₁) (hc : W0.cell? ⟨Bn, 0, none⟩ = some v) :
    SeqStopsK F n Tryz.prog 160 #[.pointer (some ⟨Bn, 0, none⟩)] (fun p : Int × Ino => #[.int .i64 p.1, p.2.v]) (CellsKept n₁) (fun ys => ys = backTo xs xs.length) (fun _ => True) xs.length W0 := fun l J Jx W hW _ _ hY h0 => by
  subst hn1
  exact back1_in F n hf hro hn l Bn W0.heap.size v xs J Jx w W hY hz hs hw.size ⟨Nat.le_trans hw.size hW.size, fun a ha => (World.cell?_of_block (hW.block _ (Nat.lt_of_lt_of_le ha hw.size))).trans (World.cell?_of_block (hw.block _ ha))⟩ hBn ((hW.cell (p := ⟨Bn, 0, none⟩) hBn).trans hc) h0

/-- behind k entries -/
def LinksOk (e : List Ent) (k : Nat) (kl : List (St × Int)) : Prop := ∀ id, (getKV id kl).getD 0 = (linksTo (e.take k) id : Int)
theorem LinksOk.step {e : List Ent} {k : Nat} {kl : List (St × Int)} (h : LinksOk e k kl) (hk : k < e.length) : LinksOk e (k + 1) (putKV e[k]!.ino ((linksTo (e.take k) e[k]!.ino : Int) + 1) kl) := by
  intro id
  have et : e.take (k + 1) = e.take k ++ [e[k]!] := by rw [getElem!_pos e k hk]; exact List.take_succ_eq_append_getElem hk
  have el : linksTo (e.take (k + 1)) id = linksTo (e.take k) id + (if e[k]!.ino = id then 1 else 0) := by
    unfold linksTo
    rw [et, List.filter_append, List.length_append]
    generalize e[k]! = y
    by_cases hid : y.ino = id <;> simp [hid]
  rw [el]
  by_cases hid : id = e[k]!.ino
  · subst hid; rw [getKV_put]; simp
  · rw [getKV_put_ne hid, h id]; rw [if_neg (Ne.symm hid)]; simp
theorem kinds_fold (l : List Ino) (id : St) : ∀ kv : List (St × Int), getKV id (l.foldl (fun kv p => putKV p.id p.kind kv) kv) = match kindOf l.reverse id with | some k => some k | none => getKV id kv := by
  induction l with
  | nil => intro kv; rfl
  | cons a l ih =>
    intro kv
    rw [List.foldl_cons, ih]
    unfold kindOf
    rw [List.reverse_cons, List.find?_append]
    cases hf : List.find? (fun i => decide (i.id = id)) l.reverse with
    | some i => simp
    | none =>
      by_cases h : a.id = id
      · subst h; simp [getKV_put]
      · rw [getKV_put_ne (Ne.symm h)]; simp [h]

theorem kindsKV_get (n : List Ino) (id : St) : getKV id (kindsKV (backTo n n.length)) = kindOf n id := by
  have e : (backTo n n.length).map (·.2) = n.reverse := by
    apply List.ext_getElem
    · simp [backTo]
    · intro i h1 h2
      simp only [backTo, List.map_map, List.getElem_map, List.getElem_range, Function.comp, List.getElem_reverse]
      rw [getElem!_pos]
  have h := kinds_fold ((backTo n n.length).map (·.2)) id []
  rw [e] at h
  rw [List.reverse_reverse] at h
  unfold kindsKV
  have e2 : (backTo n n.length).foldl (fun kv p => putKV p.2.id p.2.kind kv) [] = ((backTo n n.length).map (·.2)).foldl (fun kv p => putKV p.id p.kind kv) [] := by rw [List.foldl_map]
  rw [e2, e, h]
  cases kindOf n id <;> rfl
theorem linksTo_le (e : List Ent) (id : St) : linksTo e id ≤ e.length := List.length_filter_le _ _

set_option maxRecDepth 100000 in
set_option maxHeartbeats 4000000 in
theorem made_any (vn ve : Value) (n : List Ino) (e : List Ent) (w : World) (hn : SlAt w 6 Ino.cells vn n) (he : SlAt w 5 Ent.cells ve e) (h1 : n.length ≤ 1000) (h2 : e.length ≤ 1000) :
    Calls Tryz.prog 65 #[vn, ve] w fun x w' => ∃ g, x = .returned g ∧ AuditAt w' g n e ∧ Below w.heap.size w w' := by
  refine (callsIn_wide (n := 8)).1 ?_
  have hmm := @run_makeMap Tryz.prog
  obtain ⟨na, nc, rfl⟩ := hn.len
  obtain ⟨ea, ec, rfl⟩ := he.len
  have HN := Lib.hid hn
  have HE := Lib.hid he
  clear hn he
  refine callsIn_of_wp_marks Tryz.func65 rfl trivial ?_ rfl
  simp only [Tryz.ntmps65, List.size_toArray, List.length_cons, List.length_nil, Nat.reduceAdd, Nat.reduceSub, Array.replicate_succ, Array.replicate_zero, List.push_toArray, List.append_toArray, List.nil_append, List.cons_append]
  gi_wp2_with (refine ⟨trivial, ?_⟩; gi_at_call 110; refine (backward_in _ _ trivial rfl _ _ _ _).mono ?_; rintro x w' ⟨rfl, rfl⟩)
  obtain ⟨W0, hW0⟩ : ∃ W0, W0 = ((((w.alloc (.cells #[.slice none 0 0, .slice none 0 0, .map none, .map none] 98)).alloc (.map #[] 0)).alloc (.map #[] 0)).alloc (.cells #[.slice na n.length nc, .slice ea e.length ec, .map (some (w.heap.size + 1)), .map (some (w.heap.size + 1 + 1))] 98)).alloc (.cells #[.slice na n.length nc] 36) := ⟨_, rfl⟩
  rw [← hW0]
  have hbA := ((((Below.refl w.heap.size w).alloc (Nat.le_refl _) (.cells #[.slice none 0 0, .slice none 0 0, .map none, .map none] 98)).alloc (by simp) (.map #[] 0)).alloc (by simp only [World.size_alloc]; omega) (.map #[] 0)).alloc (by simp only [World.size_alloc]; omega) (.cells #[.slice na n.length nc, .slice ea e.length ec, .map (some (w.heap.size + 1)), .map (some (w.heap.size + 1 + 1))] 98)
  have hb0 : Below w.heap.size w W0 := by rw [hW0]; exact hbA.alloc (by simp only [World.size_alloc]; omega) _
  have hsz : W0.heap.size = w.heap.size + 1 + 1 + 1 + 1 + 1 := by rw [hW0]; simp
  have hbox : W0.cell? ⟨w.heap.size + 1 + 1 + 1 + 1, 0, none⟩ = some (.slice na n.length nc) := by rw [hW0]; exact cell_new _ _ (by simp) _ _ 0 _ rfl
  have hM0 : MadeAt w W0 (.slice na n.length nc) (.slice ea e.length ec) [] [] W0 := by
    have hg : ∀ i v, (#[.slice na n.length nc, .slice ea e.length ec, .map (some (w.heap.size + 1)), .map (some (w.heap.size + 1 + 1))] : Array Value)[i]? = some v → W0.cell? ⟨w.heap.size + 1 + 1 + 1, i, none⟩ = some v := fun i v hv => by
      rw [hW0]; exact Lib.cell?_alloc_some _ (cell_new _ _ (by simp) _ _ i v hv)
    have hmk : MapAt W0 (w.heap.size + 1) St.v intV ([] : List (St × Int)) := by
      rw [hW0]
      have h0 := mapAt_new (w.alloc (.cells #[.slice none 0 0, .slice none 0 0, .map none, .map none] 98)) St.v intV
      rw [World.size_alloc] at h0
      exact ((h0.below (B := w.heap.size + 1 + 1) ((Below.refl _ _).alloc (by simp) (.map #[] 0)) (by omega)).below (B := w.heap.size + 1 + 1) ((Below.refl _ _).alloc (by simp only [World.size_alloc]; omega) _) (by omega)).below (B := w.heap.size + 1 + 1) ((Below.refl _ _).alloc (by simp only [World.size_alloc]; omega) _) (by omega)
    have hml : MapAt W0 (w.heap.size + 1 + 1) St.v intV ([] : List (St × Int)) := by
      rw [hW0]
      have h0 := mapAt_new ((w.alloc (.cells #[.slice none 0 0, .slice none 0 0, .map none, .map none] 98)).alloc (.map #[] 0)) St.v intV
      rw [World.size_alloc, World.size_alloc] at h0
      exact (h0.below (B := w.heap.size + 1 + 1 + 1) ((Below.refl _ _).alloc (by simp) _) (by omega)).below (B := w.heap.size + 1 + 1 + 1) ((Below.refl _ _).alloc (by simp only [World.size_alloc]; omega) _) (by omega)
    have hk0 : W0.heap[w.heap.size]? = some (.cells #[.slice none 0 0, .slice none 0 0, .map none, .map none] 98 (0, 0)) := by
      rw [hW0]
      rw [Below.heap_alloc _ _ _ (by simp only [World.size_alloc]; omega), Below.heap_alloc _ _ _ (by simp only [World.size_alloc]; omega), Below.heap_alloc _ _ _ (by simp only [World.size_alloc]; omega), Below.heap_alloc _ _ _ (by simp)]
      exact World.alloc_heap_new w _
    refine ⟨hb0, Nat.le_refl _, hg 0 _ rfl, hg 1 _ rfl, hg 2 _ rfl, hg 3 _ rfl, hmk, hml, _, _, _, _, hk0⟩
  clear hW0 hbA
  refine wpIn_rangeFunc_ownH (n := 8) rfl (by omega) (gf := 160) (lb := #[.pointer (some ⟨w.heap.size + 1 + 1 + 1 + 1, 0, none⟩)]) rfl trivial (enters_of Tryz.func160 (by kernel_rfl) rfl)
    (back_stops Fence.wide 7 trivial rfl (by omega) _ W0.heap.size _ n w W0 h1 HN.out hb0 rfl (by omega) hbox)
    CellsKept.trans (fun W l o o' hl ho hc _ => ⟨by simp, fun a ha => World.cell?_of_block (World.putObj_heap_other (by omega))⟩) (Below.refl _ _) (fun _ => rfl)
    (fun pre W => MadeAt w W0 (.slice na n.length nc) (.slice ea e.length ec) [] pre W) (fun _ _ _ => False) (madeAt_own w W0 _ _ (by omega)) (fun _ _ _ _ _ hs _ _ => hs) hM0
    (fun p a' W => ∃ Bx, W0.heap.size ≤ Bx ∧ W.heap[Bx]? = some (Obj.cells #[.int .i64 p.2.id.t, .int .i64 p.2.id.r, .int .i64 p.2.kind, .int .i64 p.2.links, .int .i64 p.2.mode, .string p.2.data] 62 (0, 0)) ∧ a' = { tmps := #[.slice na n.length nc, .slice ea e.length ec, undef, undef, .pointer (some ⟨w.heap.size, 0, none⟩), .pointer (some ⟨w.heap.size + 1 + 1 + 1, 0, none⟩), undef, .pointer (some ⟨Bx, 0, none⟩), undef, undef, .slice na n.length nc, .slice ea e.length ec, .map (some (w.heap.size + 1)), .map (some (w.heap.size + 1 + 1)), .agg #[.slice na n.length nc, .slice ea e.length ec, .map (some (w.heap.size + 1)), .map (some (w.heap.size + 1 + 1))], .slice na n.length nc, .func (.func 160) #[] #[.pointer (some ⟨w.heap.size + 1 + 1 + 1 + 1, 0, none⟩)], .int .i64 p.1, .agg #[.int .i64 p.2.id.t, .int .i64 p.2.id.r, .int .i64 p.2.kind, .int .i64 p.2.links, .int .i64 p.2.mode, .string p.2.data], undef, undef, undef, undef, undef, undef, undef, undef, undef, undef, undef, undef, undef, undef, undef, undef, undef, undef, undef, undef, undef, undef], defers := [] })
    (fun p a' _ X Y row hs hg hr => by obtain ⟨Bx, h0, h1, h2⟩ := hs; exact ⟨Bx, h0, heapAt_own Bx #[.int .i64 p.2.id.t, .int .i64 p.2.id.r, .int .i64 p.2.kind, .int .i64 p.2.links, .int .i64 p.2.mode, .string p.2.data] 62 () X Y row h1 hg (fun r e => (hr r e).2), h2⟩)
    ?assign ?body ?done ?stop
  case assign =>
    rintro l pre p W K hM hK
    unfold Ino.v
    gi_wp2
    refine hK _ _ ((KeepsOthers.alloc _ _).from _) ⟨by simp, fun a ha => World.cell?_of_block (Below.heap_alloc _ _ _ (by have := hM.size; omega))⟩ (hM.of_heap (by omega) (hM.below.alloc hM.below.size _) (by have := hM.size; simp; omega) fun k hk => Below.heap_alloc _ _ _ (by have := hM.size; omega)) ⟨W.heap.size, hM.size, World.alloc_heap_new W _, rfl⟩
  case body =>
    rintro l pre p a' W hl _ hM ⟨Bx, hBx, bX, rfl⟩ hlt
    obtain ⟨W', hu, hp, hm⟩ := run_update_kv (encV := intV) keySt Tryz.underlying96 hM.kinds p.2.id p.2.kind
    have hx0 : W.cell? ⟨Bx, 0, none⟩ = some (.int .i64 p.2.id.t) := by simp [World.cell?, bX]
    have hx1 : W.cell? ⟨Bx, 1, none⟩ = some (.int .i64 p.2.id.r) := by simp [World.cell?, bX]
    have hx2 : W.cell? ⟨Bx, 2, none⟩ = some (.int .i64 p.2.kind) := by simp [World.cell?, bX]
    have hg2 := hM.g2
    have HM := Lib.hid hM
    have HP := Lib.hid hp
    have Hm := Lib.hid hm
    clear hM hp hm
    unfold St.v intV at hu
    gi_wp2
    have hM := HM.out
    have hgr : W.grownBy W' (some (w.heap.size + 1)) := by obtain ⟨es, ck, es0, ck0, _, rfl⟩ := HP.out; exact grownBy_putObj' _ _ _
    refine ⟨KeepsFrom.of_grownBy hgr (fun j ej => by cases ej; omega), ⟨Nat.le_of_eq HP.out.size.symm, fun a _ => HP.out.cell a⟩, ?_⟩
    refine ⟨?_, by rw [HP.out.size]; exact hM.size, (HP.out.cell _).trans hM.g0, (HP.out.cell _).trans hM.g1, (HP.out.cell _).trans hM.g2, (HP.out.cell _).trans hM.g3, ?_, ?_, ?_⟩
    · exact ⟨hgr.os.trans hM.below.os, hgr.tape.trans hM.below.tape, hgr.output.trans hM.below.output, Nat.le_trans hM.below.size hgr.size, fun k hk => (HP.out.other k (by omega)).trans (hM.below.block k hk)⟩
    · rw [show kindsKV (pre ++ [p]) = putKV p.2.id p.2.kind (kindsKV pre) by simp [kindsKV]]; exact Hm.out
    · obtain ⟨es, ck, a, b, c⟩ := hM.links
      exact ⟨es, ck, (HP.out.other _ (by omega)).trans a, b, c⟩
    · obtain ⟨r0, r1, r2, r3, a⟩ := hM.res
      exact ⟨r0, r1, r2, r3, (HP.out.other _ (by omega)).trans a⟩
  case done =>
    rintro D xs W hD rfl hM hK
    have hlenD := (Array.getElem?_eq_some_iff.1 hK).1
    gi_wp2
    refine wpIn_wide.2 ?_
    go_loopg [27] e.length (fun gg s27 wr => ∃ (k : Nat) (kl : List (St × Int)), k ≤ e.length ∧ e.length - k ≤ gg ∧ s27 = .int .i64 k ∧ Aside (MadeAt w W0 (.slice na n.length nc) (.slice ea e.length ec) kl (backTo n n.length) wr) ∧ Aside (LinksOk e k kl) ∧ Aside (wr.heap[D]? = some (.deferred (some []))))
    case atStart => exact ⟨0, [], Nat.zero_le _, by omega, rfl, hM, (show Aside _ from fun id => rfl), hK⟩
    case round =>
      obtain ⟨k, kl, hk, hg, rfl, hMk, hLk, hDk⟩ := hrel
      by_cases hlt : k < e.length
      · have hlti : (k : Int) < (e.length : Int) := by omega
        have hk0 : (0 : Int) ≤ (k : Int) := by omega
        have hwk : IntKind.i64.wrap ((k : Int) + 1) = (k : Int) + 1 := wrapNat (k + 1) (by omega)
        obtain ⟨b, off, hea, hbl, hcells⟩ : ∃ b off, ea = some ⟨b, off, none⟩ ∧ b < w.heap.size ∧ ∀ j, j < e.length → ∀ i u, (Ent.cells e[j]!)[i]? = some u → wr.cell? ⟨b, off + j * 5 + i, none⟩ = some u := by
          rcases HE.out with ⟨_, _, _, h0⟩ | ⟨b, off, c', h0, _, _, h3, h4⟩
          · rw [h0] at hlt; exact absurd hlt (Nat.not_lt_zero _)
          · simp at h0; exact ⟨b, off, h0.1, h3, fun j hj i u hu => (hMk.out.below.cell (p := ⟨b, _, none⟩) h3).trans (h4 j hj i u hu)⟩
        subst hea
        obtain ⟨x0, x1, x2, x3, x4⟩ := cellsEnt hcells k hlt
        clear hcells
        have hstep := Lib.hid (hLk.out.step hlt)
        have hc1 := hLk.out e[k]!.ino
        generalize hX : e[k]! = x at *
        clear hX
        have hc0 := linksTo_le (e.take k) x.ino
        have hc2 : linksTo (e.take k) x.ino ≤ 1000 := by have := List.length_take_le k e; omega
        generalize hcc : linksTo (e.take k) x.ino = c at *
        have hwc : IntKind.i64.wrap ((c : Int) + 1) = (c : Int) + 1 := wrapNat (c + 1) (by omega)
        have HX := Lib.hid hcc
        have HC1 := Lib.hid hc1
        clear hcc hc1 hc0
        obtain ⟨W1, hW1⟩ : ∃ W1, W1 = (wr.alloc (.cells #[.int .i64 x.at_.t, .int .i64 x.at_.r, .string x.name, .int .i64 x.ino.t, .int .i64 x.ino.r] 34)).drew := ⟨_, rfl⟩
        have hM1 : MadeAt w W0 (.slice na n.length nc) (.slice (some ⟨b, off, none⟩) e.length ec) kl (backTo n n.length) W1 := by
          have := hMk.out.size
          rw [hW1]
          exact hMk.out.of_heap (by omega) (hMk.out.below.alloc hMk.out.below.size _).drew (by show _ ≤ (wr.alloc _).heap.size; simp only [World.size_alloc]; omega) fun k' hk' => Below.heap_alloc _ _ _ (by omega)
        have hL1 := (run_lookup_kv (w := W1) keySt Tryz.underlying96 Tryz.zeroValue3 hM1.links x.ino).2
        rw [getD_look, HC1.out] at hL1
        obtain ⟨W2, bn, he2, hp2, hL2, hst⟩ := run_entry_kv (encV := intV) keySt Tryz.underlying96 (0 : Int) Tryz.zeroValue3 hM1.links x.ino
        rw [show intV 0 = .int .i64 0 from rfl, getD_look, HC1.out] at he2 hL2
        obtain ⟨W3, hs3, hp3, hm3⟩ := hst ((c : Int) + 1)
        unfold St.v at he2 hL1 hL2
        unfold intV at hs3
        have hM3 : MadeAt w W0 (.slice na n.length nc) (.slice (some ⟨b, off, none⟩) e.length ec) (putKV x.ino ((c : Int) + 1) kl) (backTo n n.length) W3 := by
          have hc : ∀ a, W3.cell? a = W1.cell? a := fun a => (hp3.cell a).trans (hp2.cell a)
          have ho : ∀ k', k' ≠ w.heap.size + 1 + 1 → W3.heap[k']? = W1.heap[k']? := fun k' hk' => (hp3.other k' hk').trans (hp2.other k' hk')
          have hs' : W3.heap.size = W1.heap.size := hp3.size.trans hp2.size
          refine ⟨?_, by rw [hs']; exact hM1.size, (hc _).trans hM1.g0, (hc _).trans hM1.g1, (hc _).trans hM1.g2, (hc _).trans hM1.g3, ?_, hm3, ?_⟩
          · obtain ⟨es, ck, es0, ck0, _, rfl⟩ := hp2
            obtain ⟨es', ck', es0', ck0', _, rfl⟩ := hp3
            exact ⟨hM1.below.os, hM1.below.tape, hM1.below.output, by rw [hs']; exact hM1.below.size, fun k' hk' => (ho k' (by omega)).trans (hM1.below.block k' hk')⟩
          · obtain ⟨es, ck, a, b, c⟩ := hM1.kinds
            exact ⟨es, ck, (ho _ (by omega)).trans a, b, c⟩
          · obtain ⟨r0, r1, r2, r3, a⟩ := hM1.res
            exact ⟨r0, r1, r2, r3, (ho _ (by omega)).trans a⟩
        have HD3 : Hid (W3.heap[D]? = some (.deferred (some []))) := Lib.hid (by
          have h1 : W1.heap[D]? = some (.deferred (some [])) := by
            rw [hW1]; exact (Below.heap_alloc wr _ D (Array.getElem?_eq_some_iff.1 hDk.out).1).trans hDk.out
          exact (hp3.other D (by omega)).trans ((hp2.other D (by omega)).trans h1))
        have e3 : ∀ a, W3.cell? a = W2.cell? a := hp3.cell
        have HM3 := Lib.hid hM3
        have HMK := Lib.hid hMk
        have e2 : ∀ a, W2.cell? a = W1.cell? a := hp2.cell
        have f3 : wr.cell? ⟨w.heap.size + 1 + 1 + 1, 3, none⟩ = some (.map (some (w.heap.size + 1 + 1))) := hMk.out.g3
        have f31 : W1.cell? ⟨w.heap.size + 1 + 1 + 1, 3, none⟩ = some (.map (some (w.heap.size + 1 + 1))) := hM1.g3
        have f32 : W2.cell? ⟨w.heap.size + 1 + 1 + 1, 3, none⟩ = some (.map (some (w.heap.size + 1 + 1))) := (e2 _).trans hM1.g3
        have d31 : W1.cell? ⟨wr.heap.size, 3, none⟩ = some (.int .i64 x.ino.t) := by rw [hW1]; exact cell_new wr _ rfl _ _ 3 _ rfl
        have d41 : W1.cell? ⟨wr.heap.size, 4, none⟩ = some (.int .i64 x.ino.r) := by rw [hW1]; exact cell_new wr _ rfl _ _ 4 _ rfl
        have d32 : W2.cell? ⟨wr.heap.size, 3, none⟩ = some (.int .i64 x.ino.t) := (e2 _).trans d31
        have d42 : W2.cell? ⟨wr.heap.size, 4, none⟩ = some (.int .i64 x.ino.r) := (e2 _).trans d41
        have f33 : W3.cell? ⟨w.heap.size + 1 + 1 + 1, 3, none⟩ = some (.map (some (w.heap.size + 1 + 1))) := (e3 _).trans f32
        have d33 : W3.cell? ⟨wr.heap.size, 3, none⟩ = some (.int .i64 x.ino.t) := (e3 _).trans d32
        have d43 : W3.cell? ⟨wr.heap.size, 4, none⟩ = some (.int .i64 x.ino.r) := (e3 _).trans d42
        clear e3
        clear hM1 hp2 hst hp3 hm3 hM3 e2
        rw [hW1] at he2 hL1 f31 d31 d41
        have HW1 := Lib.hid hW1
        clear hW1
        go_wp2
        go_region_held3 (fun W => W.cell? ⟨w.heap.size + 1 + 1 + 1, 3, none⟩ = some (.map (some (w.heap.size + 1 + 1))) ∧ W.cell? ⟨wr.heap.size, 3, none⟩ = some (.int .i64 x.ino.t) ∧ W.cell? ⟨wr.heap.size, 4, none⟩ = some (.int .i64 x.ino.r)) (go_keep) (fail)
        all_goals go_wp2
        all_goals go_roundg (e.length - (k + 1))
        all_goals first | omega | exact ⟨k + 1, _, by omega, by omega, by first | rfl | go_num, HM3.out, hstep.out, HD3.out⟩
      · have hlti : ¬ (k : Int) < (e.length : Int) := by omega
        have hke : k = e.length := by omega
        subst hke
        have g0 := hMk.out.g0
        have g1 := hMk.out.g1
        have g2 := hMk.out.g2
        have g3 := hMk.out.g3
        obtain ⟨r0, r1, r2, r3, hres⟩ := hMk.out.res
        have r00 := cell_at hres 0 _ rfl
        have r10 := cell_at hres 1 _ rfl
        have r20 := cell_at hres 2 _ rfl
        have r30 := cell_at hres 3 _ rfl
        have r01 := frozen_at hres 0
        have r11 := frozen_at hres 1
        have r21 := frozen_at hres 2
        have r31 := frozen_at hres 3
        have HRES := Lib.hid hres
        clear hres
        go_wp2
        gi_wp2
        obtain ⟨W4, hW4⟩ : ∃ W4, W4 = (((wr.setCell ⟨w.heap.size, 0, none⟩ (.slice na n.length nc)).setCell ⟨w.heap.size, 1, none⟩ (.slice ea e.length ec)).setCell ⟨w.heap.size, 2, none⟩ (.map (some (w.heap.size + 1)))).setCell ⟨w.heap.size, 3, none⟩ (.map (some (w.heap.size + 1 + 1))) := ⟨_, rfl⟩
        rw [← hW4]
        have ho : ∀ k', k' ≠ w.heap.size → W4.heap[k']? = wr.heap[k']? := fun k' hk' => by
          rw [hW4, Below.heap_setCell _ _ _ k' hk', Below.heap_setCell _ _ _ k' hk', Below.heap_setCell _ _ _ k' hk', Below.heap_setCell _ _ _ k' hk']
        have hs4 : W4.heap.size = wr.heap.size := by rw [hW4]; simp
        have h4 : W4.heap[w.heap.size]? = some (.cells #[.slice na n.length nc, .slice ea e.length ec, .map (some (w.heap.size + 1)), .map (some (w.heap.size + 1 + 1))] 98 (0, 0)) := by
          rw [hW4]
          exact heap_setCell_at (heap_setCell_at (heap_setCell_at (heap_setCell_at HRES.out 0 _) 1 _) 2 _) 3 _
        have hM4 := hMk.out
        have hD4 : W4.heap[D]? = some (.deferred (some [])) := (ho D (by omega)).trans hDk.out
        have hb4 : Below w.heap.size w W4 := ⟨by rw [hW4]; exact hM4.below.os, by rw [hW4]; exact hM4.below.tape, by rw [hW4]; exact hM4.below.output, by rw [hs4]; exact hM4.below.size, fun k' hk' => (ho k' (by omega)).trans (hM4.below.block k' hk')⟩
        have hD5 : D < wr.heap.size := (Array.getElem?_eq_some_iff.1 hDk.out).1
        clear hW4
        refine ⟨by simp, .inl ⟨_, _, rfl, run_takeDeferred hD4, ?_⟩⟩
        have h5 : ∀ k', k' ≠ D → (W4.putObj D (.deferred none)).heap[k']? = W4.heap[k']? := fun k' hk' => World.putObj_heap_other hk'
        have hb5 : Below w.heap.size w (W4.putObj D (.deferred none)) := ⟨hb4.os, hb4.tape, hb4.output, by simpa using hb4.size, fun k' hk' => (h5 k' (by omega)).trans (hb4.block k' hk')⟩
        refine ⟨_, results_cell_row rfl _ _ w.heap.size 98 _ _ _ rfl ((h5 _ (by omega)).trans h4) Tryz.underlying98 rfl (by kernel_rfl), _, rfl, ⟨_, _, w.heap.size + 1, w.heap.size + 1 + 1, kindsKV (backTo n n.length), kl, rfl, HN.out.below hb5, HE.out.below hb5, ?_, ?_, ?_, ?_, ?_, ?_⟩, hb5⟩
        · obtain ⟨es, ck, a, b, c⟩ := hM4.kinds
          exact ⟨es, ck, (h5 _ (by omega)).trans ((ho _ (by omega)).trans a), b, c⟩
        · obtain ⟨es, ck, a, b, c⟩ := hM4.links
          exact ⟨es, ck, (h5 _ (by omega)).trans ((ho _ (by omega)).trans a), b, c⟩
        · exact kindsKV_get n
        · intro id
          have := hLk.out id
          rw [List.take_length] at this
          exact this
        · have e5 : (W4.putObj D (.deferred none)).heap.size = W4.heap.size := by simp
          omega
        · have e5 : (W4.putObj D (.deferred none)).heap.size = W4.heap.size := by simp
          omega
  case stop =>
    rintro D c pre W _ _ h _
    exact h.elim
end Go.Proofs.YtlokljaeknmdpaaGreat
