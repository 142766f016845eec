/-
  copy at elements of more than one cell; a row with another element put into it, plainly; no condition.
-/
import Derived.Test.YtfbjiaedfmdcfaaGreatDoorKY3
import Derived.Laws.CopyRow
import Derived.Laws.IdiomCopy
import Derived.Lib.AppendZerosOnto
import Derived.Lib.Overlaps
import Derived.Deep.AppendSrc
/-! ## InsA -/
namespace Go.Proofs.YtfbjiaedfmdcfaaGreatDoor
open Go.RowKit Go.Proofs

theorem run_copy_rowk {P : Program} (w : World) (dT sT ty elem : TypeId) (k g o dLen dCap : Nat) (a : Addr) (sLen sCap : Nat) (cur : Array Value) (t : TypeId) (cs : List Value)
    (hu : P.underlying dT = some (.slice elem)) (hs : (P.info? elem).map (·.size) = some k)
    (hg : w.heap[g]? = some (.cells cur t (0, 0))) (hn : cs.length = Nat.min sLen dLen * k)
    (hsrc : ∀ j v, cs[j]? = some v → w.cell? (a.add j) = some v) (hfit : o + cs.length ≤ cur.size) (h1 : ∀ v ∈ cs, v.oneCell' = true) :
    (Builtin.copy_ #[dT, sT] ty #[.slice (some ⟨g, o, none⟩) dLen dCap, .slice (some a) sLen sCap]).run P w =
      .ok (goInt (Nat.min sLen dLen)) (w.setRow g (cur.toList.take o ++ cs ++ cur.toList.drop (o + cs.length)).toArray) := by
  have hl := run_loadCells_list (P := P) w a cs hsrc
  have hst := run_storeCells_at P g o t cs 0 cur w hg (by simpa using hfit) h1
  cases hq : P.info? elem with
  | none => simp [hq] at hs
  | some i =>
    have hi : i.size = k := by simpa [hq] using hs
    simp [Builtin.copy_, run_underlying hu, Builtin.lenOf, Builtin.firstCells, sizeOf, typeInfo, hq, hi, ← hn, hl, hst]

theorem wpList_copy_run {P : Program} (w : World) {ops : Array Oper} {rest : List Oper} {o : Oper} {a : Act} {Q : Exit → Act → World → Prop} (hgd : o.guard = none) (d s : Operand) (t t' : TypeId)
    (ho : o.op = .call { callee := .builtin .copy, args := #[d, s], argTypes := #[t, t'] }) (v u : Value) (hd : a.eval d = v) (hs : a.eval s = u) {v' : Value} {w' : World}
    (hr : (Builtin.copy_ #[t, t'] o.type #[v, u]).run P w = .ok v' w') (h : wpList P ops Q rest (a.put o.dst v') w') : wpList P ops Q (o :: rest) a w :=
  wpList_plain hgd fun K hK => by
    unfold Oper.wp execOp
    simp only [ho, resolve, invoke, builtin, Sem.run_bind, Sem.run_pure, Result.andThen_ok, List.map_toArray, List.map_cons, List.map_nil, hd, hs, hr]
    exact hK _ _ h
theorem step_copy_run {P : Program} {ops : Array Oper} {o : Oper} {a : Act} {w : World} {K : Act → World → Prop} {Q : Exit → Act → World → Prop} {E : Prop}
    (hg : o.guard = none) (d x : Operand) (dT sT : TypeId) (hop : o.op = Op.call { callee := Callee.builtin Builtin.copy, args := #[d, x], argTypes := #[dT, sT] })
    (v u : Value) (hd : a.eval d = v) (hx : a.eval x = u) {v' : Value} {w' : World} (hr : (Builtin.copy_ #[dT, sT] o.type #[v, u]).run P w = .ok v' w') (hK : K (a.put o.dst v') w') :
    if Region.wanted o (yielded ops a.tmps) = true then Oper.wp P o a w K Q else E := by
  have hw : Region.wanted o (yielded ops a.tmps) = true := by simp [Region.wanted, hg]
  rw [if_pos hw]
  unfold Oper.wp
  simp [execOp, hop, resolve, invoke, builtin, hd, hx, hr, Result.andThen]
  exact hK

/-- a row with room, shifted -/
theorem ins_shift {α : Type} {cur L oc : List α} {a n k : Nat} (hL : cur.take n = L) (hl : L.length = n) (ha : a ≤ n) (hk : oc.length = k) (hroom : n + k ≤ cur.length) :
    let c1 := cur.take (a + k) ++ L.drop a ++ cur.drop (a + k + (L.drop a).length)
    let c2 := c1.take a ++ oc ++ c1.drop (a + oc.length)
    c1.length = cur.length ∧ c2.length = cur.length ∧ c2.take (n + k) = L.take a ++ oc ++ L.drop a := by
  intro c1 c2
  have hd : (L.drop a).length = n - a := by rw [List.length_drop, hl]
  have l1 : c1.length = cur.length := by simp only [c1, List.length_append, List.length_take, List.length_drop, hl]; omega
  have t1 : c1.take a = L.take a := by
    simp only [c1]
    rw [List.append_assoc, List.take_append_of_le_length (by rw [List.length_take]; omega), List.take_take, ← hL, List.take_take]
    congr 1; omega
  have d1 : c1.drop (a + k) = L.drop a ++ cur.drop (a + k + (L.drop a).length) := by
    simp only [c1]
    rw [List.append_assoc, List.drop_left' (by rw [List.length_take]; omega)]
  refine ⟨l1, ?_, ?_⟩
  · simp only [c2, List.length_append, List.length_take, List.length_drop, hk, l1]; omega
  · simp only [c2]
    rw [hk, t1, d1, ← List.append_assoc, List.take_left' (by simp only [List.length_append, List.length_take, List.length_drop, hl, hk]; omega)]
/-- a new row, laid with what was ahead, the new one, and the rest -/
theorem ins_grow {α : Type} {R L oc : List α} {a n k : Nat} (hl : L.length = n) (ha : a ≤ n) (hk : oc.length = k) (hR : R.take a = L.take a) (hroom : n + k ≤ R.length) :
    let c1 := R.take a ++ oc ++ R.drop (a + oc.length)
    let c2 := c1.take (a + k) ++ L.drop a ++ c1.drop (a + k + (L.drop a).length)
    c1.length = R.length ∧ c2.length = R.length ∧ c2.take (n + k) = L.take a ++ oc ++ L.drop a := by
  intro c1 c2
  have l1 : c1.length = R.length := by simp only [c1, List.length_append, List.length_take, List.length_drop, hk]; omega
  have t1 : c1.take (a + k) = L.take a ++ oc := by
    simp only [c1]
    rw [List.take_left' (by simp only [List.length_append, List.length_take, hk]; omega), hR]
  refine ⟨l1, ?_, ?_⟩
  · simp only [c2, List.length_append, List.length_take, List.length_drop, l1, hl]; omega
  · simp only [c2]
    rw [t1, List.take_left' (by simp only [List.length_append, List.length_take, List.length_drop, hl, hk]; omega)]
/-- cells of a list of which each has k -/
theorem flat_take {α : Type} {f : α → List Value} {k : Nat} (hk : ∀ a, (f a).length = k) : ∀ (l : List α) (i : Nat), (l.take i).flatMap f = (l.flatMap f).take (i * k)
  | [], i => by simp
  | a :: l, 0 => by simp
  | a :: l, i + 1 => by
    have e : (i + 1) * k = (f a).length + i * k := by rw [hk, Nat.succ_mul, Nat.add_comm]
    rw [List.take_succ_cons, List.flatMap_cons, List.flatMap_cons, flat_take hk l i, e, List.take_length_add_append]
theorem flat_drop {α : Type} {f : α → List Value} {k : Nat} (hk : ∀ a, (f a).length = k) : ∀ (l : List α) (i : Nat), (l.drop i).flatMap f = (l.flatMap f).drop (i * k)
  | [], i => by simp
  | a :: l, 0 => by simp
  | a :: l, i + 1 => by
    rw [List.drop_succ_cons, List.flatMap_cons, flat_drop hk l i, Nat.succ_mul, Nat.add_comm (i * k) k, ← List.drop_drop, List.drop_left' (hk a)]
theorem flat_len {α : Type} {f : α → List Value} {k : Nat} (hk : ∀ a, (f a).length = k) (l : List α) : (l.flatMap f).length = l.length * k := by
  induction l with
  | nil => simp
  | cons a l ih => rw [List.flatMap_cons, List.length_append, hk, ih, List.length_cons, Nat.succ_mul]; omega
theorem flat_ins {α : Type} {f : α → List Value} {k : Nat} (hk : ∀ a, (f a).length = k) (l : List α) (i : Nat) (o : α) :
    (l.take i ++ o :: l.drop i).flatMap f = (l.flatMap f).take (i * k) ++ f o ++ (l.flatMap f).drop (i * k) := by
  rw [List.flatMap_append, List.flatMap_cons, flat_take hk, flat_drop hk, List.append_assoc]
theorem setRow_size (w : World) (g : Nat) (c : Array Value) : (w.setRow g c).heap.size = w.heap.size := by simp [World.setRow]
end Go.Proofs.YtfbjiaedfmdcfaaGreatDoor
