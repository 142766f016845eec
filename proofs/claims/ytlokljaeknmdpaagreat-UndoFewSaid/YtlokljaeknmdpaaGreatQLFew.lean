/-
  thimblelaw12.UndoFew: how little an operation turns; no condition but the texts' reach.
-/
import Derived.Test.YtlokljaeknmdpaaGreatQLFewA
import Derived.Test.YtlokljaeknmdpaaGreatKFew
import Derived.Test.YtlokljaeknmdpaaGreatKFew
namespace Go.Proofs.YtlokljaeknmdpaaGreat.L12
open Go.RowKit Go.Shelf Go.Proofs

theorem few_walk (v1 : Value) (l : List Op) (o : Op) (w : World) (hs1 : SlAt w 13 Op.cells v1 l) (hn1 : ∀ o ∈ l, o.Small) (h_o : o.Small) :
    Calls Tryz.prog 5 #[v1, o.v] w fun y w' => y = .returned (.bool true) ∧ Below w.heap.size w w' := by
  cases hf1 : decide (l.length ≤ 60) with
  | false => exact few_not v1 l o w hs1 hn1 h_o hf1
  | true =>
    by_cases hw : (ran l).opWhy o = 0
    · by_cases h8 : 8 ≤ o.kind
      · cases hz4 : (((wasOf (ran l) ((ran l).apply o)).length : Int) == 0) with
        | false => exact few_data_false v1 l o w hs1 hn1 h_o hf1 hw h8 hz4
        | true => exact few_data_true v1 l o w hs1 hn1 h_o hf1 hw h8 hz4
      · by_cases hk3 : o.kind = 1 ∨ o.kind = 2 ∨ o.kind = 3
        · exact few_make_ v1 l o w hs1 hn1 h_o hf1 hw h8 hk3
        · cases hz1 : (((lostOf (ran l) ((ran l).apply o)).length : Int) == 0) with
          | false => exact few_rest_0 v1 l o w hs1 hn1 h_o hf1 hw h8 hk3 hz1
          | true =>
            cases hz2 : (((lostOf ((ran l).apply o) (ran l)).length : Int) == 0) with
            | false => exact few_rest_1 v1 l o w hs1 hn1 h_o hf1 hw h8 hk3 hz1 hz2
            | true =>
              cases hz4 : (((wasOf (ran l) ((ran l).apply o)).length : Int) == 0) with
              | false => exact few_rest_2 v1 l o w hs1 hn1 h_o hf1 hw h8 hk3 hz1 hz2 hz4
              | true =>
                cases hz3 : (((newOf (ran l) ((ran l).apply o)).length : Int) == 0) with
                | false => exact few_rest_3 v1 l o w hs1 hn1 h_o hf1 hw h8 hk3 hz1 hz2 hz4 hz3
                | true => exact few_rest_4 v1 l o w hs1 hn1 h_o hf1 hw h8 hk3 hz1 hz2 hz4 hz3
    · exact few_err v1 l o w hs1 hn1 h_o hf1 hw
end Go.Proofs.YtlokljaeknmdpaaGreat.L12
