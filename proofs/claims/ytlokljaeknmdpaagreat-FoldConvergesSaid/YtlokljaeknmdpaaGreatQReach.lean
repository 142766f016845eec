/-
  audit.Reach; condition: that of audit.made.
-/
import Derived.Test.YtlokljaeknmdpaaGreatQSort
import Derived.Test.YtlokljaeknmdpaaGreatKMap
import Derived.Test.YtlokljaeknmdpaaGreatQWithout
namespace Go.Proofs.YtlokljaeknmdpaaGreat
open Go.RowKit Go.Shelf

theorem infoSt : (Tryz.prog.info? 31).map (fun i => (i.zero, i.size, i.bytes)) = some (some (.agg #[.int .i64 0, .int .i64 0]), 2, 16) := by kernel_rfl

theorem ownsRow_heap {W W' : World} {base : Nat} {t : TypeId} {size : Nat} {v : Value} {k : Nat} {xs : List Value} (h : W.ownsRow base t size v k xs) (hb : ∀ j, base ≤ j → W'.heap[j]? = W.heap[j]?) : W'.ownsRow base t size v k xs := by
  refine ⟨h.1, ?_⟩
  rcases h.2 with h0 | ⟨g, cap, cur, hv, hg, hh, rest⟩
  · exact .inl h0
  · exact .inr ⟨g, cap, cur, hv, hg, (hb g hg).trans hh, rest⟩

theorem cells_new' (w : World) (x : St) (o : Obj) : ∀ j u, x.cells[j]? = some u → ((w.alloc o).alloc (.cells #[.int .i64 x.t, .int .i64 x.r] 31)).cell? ((⟨w.heap.size + 1, 0, none⟩ : Addr).add j) = some u := by
  intro j u hj
  rw [Addr.add_lit, Nat.zero_add]
  exact cell_new (w.alloc o) _ (by simp) _ _ j u (by simpa [St.cells] using hj)

end Go.Proofs.YtlokljaeknmdpaaGreat
