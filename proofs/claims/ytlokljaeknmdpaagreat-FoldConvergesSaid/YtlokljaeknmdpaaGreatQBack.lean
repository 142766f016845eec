/-
  The iterator of slices.Backward at a list of inodes; condition: at most 1000 of them.
-/
import Derived.Test.YtlokljaeknmdpaaGreatQColl
import Derived.Test.YtlokljaeknmdpaaGreatKAudE
namespace Go.Proofs.YtlokljaeknmdpaaGreat
open Go.RowKit Go.Shelf

attribute [local go_sem] Oper.semAt_some

/-- what cells lie below n₁ lies on -/
structure CellsKept (n₁ : Nat) (A B : World) : Prop where
  size : A.heap.size ≤ B.heap.size
  cell : ∀ a : Addr, a.block < n₁ → B.cell? a = A.cell? a

theorem CellsKept.refl (n₁ : Nat) (A : World) : CellsKept n₁ A A := ⟨Nat.le_refl _, fun _ _ => rfl⟩
theorem CellsKept.trans {n₁ : Nat} {A B C : World} (h : CellsKept n₁ A B) (k : CellsKept n₁ B C) : CellsKept n₁ A C := ⟨Nat.le_trans h.size k.size, fun a ha => (k.cell a ha).trans (h.cell a ha)⟩

/-- the first k of what comes -/
def backTo (xs : List Ino) (k : Nat) : List (Int × Ino) := (List.range k).map fun j => (((xs.length - 1 - j : Nat) : Int), xs[xs.length - 1 - j]!)
theorem backTo_succ (xs : List Ino) (m k : Nat) (h : m + 1 + k = xs.length) : backTo xs (k + 1) = backTo xs k ++ [((m : Int), xs[m]!)] := by
  have e : xs.length - 1 - k = m := by omega
  simp [backTo, List.range_succ, e]

theorem wrapInt (i : Int) (h1 : -9223372036854775808 ≤ i) (h2 : i < 9223372036854775808) : IntKind.i64.wrap i = i := by
  rw [IntWalk.i64_left]
  unfold wrap64
  omega

def intOf : Value → Int | .int _ i => i | _ => 0

set_option maxRecDepth 100000 in
set_option maxHeartbeats 1000000 in
theorem back1_in (F : Fence) (n : Nat) (hf : F.fn 160) (hro : F.round = none) (hn : 1 ≤ n) (l Bn n₁ : Nat) (v : Value) (xs : List Ino) (J Jx : List (Int × Ino) → World → Prop) (W0 W : World)
    (hY : ∀ pre x W1, J pre W1 → pre.length < xs.length → YieldAt F (n - 1) Tryz.prog l #[.int .i64 x.1, x.2.v] W1 fun e W' =>
      (e = .returned (.bool true) ∧ J (pre ++ [x]) W' ∧ CellsKept n₁ W1 W') ∨ (e = .returned (.bool false) ∧ Jx (pre ++ [x]) W'))
    (hz : xs.length ≤ 1000) (hs : SlAt W0 6 Ino.cells v xs) (hn1 : W0.heap.size ≤ n₁) (hW0 : CellsKept W0.heap.size W0 W) (hBn : Bn < n₁) (hc : W.cell? ⟨Bn, 0, none⟩ = some v) (h0 : J [] W) :
    CallsIn F n Tryz.prog 160 #[.func (.yield l) #[] #[], .pointer (some ⟨Bn, 0, none⟩)] W fun e W' => (∃ v, e = .returned v) ∧
      ((∃ ys, ys = backTo xs xs.length ∧ J ys W') ∨ (∃ pre, True ∧ Jx pre W')) := by
  obtain ⟨ea, ec, rfl⟩ := hs.len
  have HS := Lib.hid hs
  have HW0 := Lib.hid hW0
  have HJ0 := Lib.hid h0
  have HY := Lib.hid hY
  clear hs hW0 h0 hY
  have hw0 : IntKind.i64.wrap ((xs.length : Int) - 1) = (xs.length : Int) - 1 := wrapInt _ (by omega) (by omega)
  refine callsIn_of_wp Tryz.func160 rfl hf ?_ hro
  simp only [Tryz.ntmps160, List.size_toArray, List.length_cons, List.length_nil, Nat.reduceAdd, Nat.reduceSub, Array.replicate_succ, Array.replicate_zero, List.push_toArray, List.append_toArray, List.nil_append, List.cons_append]
  gi_wp2
  gi_loopw [3] (fun p wr => ∃ (k m : Nat), m + k = xs.length ∧ p = .int .i64 ((m : Int) - 1) ∧ Hid (J (backTo xs k) wr) ∧ Hid (CellsKept n₁ W wr)) (fun p _ => (intOf p + 1).toNat)
  case atStart => exact ⟨0, xs.length, by omega, rfl, HJ0, Lib.hid (CellsKept.refl _ _)⟩
  case round =>
    obtain ⟨k, m, hkm, rfl, hj, hck⟩ := hrel
    cases m with
    | zero =>
      have hk : k = xs.length := by omega
      subst hk
      gi_wp2
      go_end0
      exact ⟨⟨_, rfl⟩, .inl ⟨_, rfl, hj.out⟩⟩
    | succ m =>
      have hmi : (m : Int) < (xs.length : Int) := by omega
      have hm0 : (0 : Int) ≤ (m : Int) := by omega
      have hm1 : ((m + 1 : Nat) : Int) - 1 = (m : Int) := by omega
      have hw : IntKind.i64.wrap ((m : Int) - 1) = (m : Int) - 1 := wrapInt _ (by omega) (by omega)
      rw [hm1]
      obtain ⟨b, off, hea, hbl, hcells⟩ : ∃ b off, ea = some ⟨b, off, none⟩ ∧ b < W0.heap.size ∧ ∀ j, j < xs.length → ∀ i u, (Ino.cells xs[j]!)[i]? = some u → wr.cell? ⟨b, off + j * 6 + i, none⟩ = some u := by
        rcases HS.out with ⟨_, _, _, h0⟩ | ⟨b, off, c', h0, _, _, h3, h4⟩
        · rw [h0] at hkm; simp at hkm
        · simp at h0
          exact ⟨b, off, h0.1, h3, fun j hj i u hu => (hck.out.cell _ (show b < n₁ by omega)).trans ((HW0.out.cell _ h3).trans (h4 j hj i u hu))⟩
      subst hea
      obtain ⟨x0, x1, x2, x3, x4, x5⟩ := cellsIno hcells m (by omega)
      clear hcells
      have hc' : wr.cell? ⟨Bn, 0, none⟩ = some (.slice (some ⟨b, off, none⟩) xs.length ec) := (hck.out.cell _ hBn).trans hc
      have hsucc := Lib.hid (backTo_succ xs m k hkm)
      generalize xs[m]! = X at *
      have hlen : (backTo xs k).length < xs.length := by simp [backTo]; omega
      obtain ⟨fn, tmps, assign, body, hy, hRR⟩ := HY.out (backTo xs k) ((m : Int), X) wr hj.out hlen
      dsimp only [Ino.v] at hy
      gi_wp2
      refine hRR.mono ?_
      rintro e W4 (⟨rfl, hJ4, hk4⟩ | ⟨rfl, hJx4⟩)
      · have HJ4 := Lib.hid hJ4
        have HK4 := Lib.hid (hck.out.trans hk4)
        clear hJ4 hk4
        gi_wp2
        go_roundw
        case rel => exact ⟨k + 1, m, by omega, rfl, Lib.hid (by rw [hsucc.out]; exact HJ4.out), HK4⟩
        case measure => simp [intOf]
      · gi_wp2
        refine bodyPost_ret (results_none rfl _ _ _) rfl ?_
        exact ⟨⟨_, rfl⟩, .inr ⟨_, trivial, hJx4⟩⟩
end Go.Proofs.YtlokljaeknmdpaaGreat
