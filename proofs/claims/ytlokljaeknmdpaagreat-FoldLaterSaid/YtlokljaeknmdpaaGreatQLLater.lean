/-
  thimblelaw13.FoldLater: a mode of one inode and data of another one, from anywhere; no condition but the texts' reach.
-/
import Derived.Test.YtlokljaeknmdpaaGreatQL13
import Derived.Test.YtlokljaeknmdpaaGreatKFold
import Derived.Test.YtlokljaeknmdpaaGreatQFoldLt
import Derived.Test.YtlokljaeknmdpaaGreatQReads
namespace Go.Proofs.YtlokljaeknmdpaaGreat.L13
open Go.RowKit Go.Shelf Go.Proofs

/-- what Put tells is a slice of what it says -/
theorem put_sl {v v' : Value} {l : List Op} {o : Op} {B : Nat} {w w' : World} (h : SlAt w 13 Op.cells v l) (hb : Below w.heap.size w w') (h1 : putB l o = false → v' = v) (h2 : putB l o = true → w'.ownsRow B 47 13 v' (putOp l o).length ((putOp l o).flatMap Op.cells)) : SlAt w' 13 Op.cells v' (putOp l o) := by
  cases hp : putB l o with
  | true => exact SlAt.of_row (fun _ => rfl) (h2 hp)
  | false => rw [h1 hp, put_not hp]; exact h.below hb

set_option maxRecDepth 100000 in
set_option maxHeartbeats 8000000 in
theorem later_walk (v1 : Value) (l : List Op) (o x : Op) (w : World) (hs1 : SlAt w 13 Op.cells v1 l) (hn1 : ∀ o ∈ l, o.Small) (h_o : o.Small) (h_x : x.Small) :
    Calls Tryz.prog 9 #[v1, o.v, x.v] w fun y w' => y = .returned (.bool true) ∧ Below w.heap.size w w' := by
  obtain ⟨W0, hW0⟩ : ∃ W0, W0 = (w.alloc (.cells #[.int .i64 o.stamp.t, .int .i64 o.stamp.r, .int .i64 o.kind, .int .i64 o.at_.t, .int .i64 o.at_.r, .int .i64 o.ino.t, .int .i64 o.ino.r, .int .i64 o.to.t, .int .i64 o.to.r, .string o.name, .string o.new, .int .i64 o.off, .string o.data] 47)).alloc (.cells #[.int .i64 x.stamp.t, .int .i64 x.stamp.r, .int .i64 x.kind, .int .i64 x.at_.t, .int .i64 x.at_.r, .int .i64 x.ino.t, .int .i64 x.ino.r, .int .i64 x.to.t, .int .i64 x.to.r, .string x.name, .string x.new, .int .i64 x.off, .string x.data] 47) := ⟨_, rfl⟩
  have hw0 : Below w.heap.size w W0 := by rw [hW0]; exact ((Below.refl _ _).alloc (Nat.le_refl _) _).alloc (by simp) _
  have hz0 : W0.heap.size = w.heap.size + 2 := by rw [hW0]; simp
  have HW : Hid (Below w.heap.size w W0 ∧ W0.heap.size = w.heap.size + 2) := Lib.hid ⟨hw0, hz0⟩
  have hz : w.heap.size < W0.heap.size := by omega
  have hz' : w.heap.size + 1 < W0.heap.size := by omega
  have HB0 : Hid (Below W0.heap.size W0 W0) := Lib.hid (Below.refl _ _)
  have HJ : Hid (∀ W, Below W0.heap.size W0 W → (W.cell? ⟨w.heap.size, 0, none⟩ = some (.int .i64 o.stamp.t) ∧ W.cell? ⟨w.heap.size, 1, none⟩ = some (.int .i64 o.stamp.r) ∧ W.cell? ⟨w.heap.size, 2, none⟩ = some (.int .i64 o.kind) ∧ W.cell? ⟨w.heap.size, 3, none⟩ = some (.int .i64 o.at_.t) ∧ W.cell? ⟨w.heap.size, 4, none⟩ = some (.int .i64 o.at_.r) ∧ W.cell? ⟨w.heap.size, 5, none⟩ = some (.int .i64 o.ino.t) ∧ W.cell? ⟨w.heap.size, 6, none⟩ = some (.int .i64 o.ino.r) ∧ W.cell? ⟨w.heap.size, 7, none⟩ = some (.int .i64 o.to.t) ∧ W.cell? ⟨w.heap.size, 8, none⟩ = some (.int .i64 o.to.r) ∧ W.cell? ⟨w.heap.size, 9, none⟩ = some (.string o.name) ∧ W.cell? ⟨w.heap.size, 10, none⟩ = some (.string o.new) ∧ W.cell? ⟨w.heap.size, 11, none⟩ = some (.int .i64 o.off) ∧ W.cell? ⟨w.heap.size, 12, none⟩ = some (.string o.data)) ∧ (W.cell? ⟨w.heap.size + 1, 0, none⟩ = some (.int .i64 x.stamp.t) ∧ W.cell? ⟨w.heap.size + 1, 1, none⟩ = some (.int .i64 x.stamp.r) ∧ W.cell? ⟨w.heap.size + 1, 2, none⟩ = some (.int .i64 x.kind) ∧ W.cell? ⟨w.heap.size + 1, 3, none⟩ = some (.int .i64 x.at_.t) ∧ W.cell? ⟨w.heap.size + 1, 4, none⟩ = some (.int .i64 x.at_.r) ∧ W.cell? ⟨w.heap.size + 1, 5, none⟩ = some (.int .i64 x.ino.t) ∧ W.cell? ⟨w.heap.size + 1, 6, none⟩ = some (.int .i64 x.ino.r) ∧ W.cell? ⟨w.heap.size + 1, 7, none⟩ = some (.int .i64 x.to.t) ∧ W.cell? ⟨w.heap.size + 1, 8, none⟩ = some (.int .i64 x.to.r) ∧ W.cell? ⟨w.heap.size + 1, 9, none⟩ = some (.string x.name) ∧ W.cell? ⟨w.heap.size + 1, 10, none⟩ = some (.string x.new) ∧ W.cell? ⟨w.heap.size + 1, 11, none⟩ = some (.int .i64 x.off) ∧ W.cell? ⟨w.heap.size + 1, 12, none⟩ = some (.string x.data))) := Lib.hid fun W hW => ⟨⟨(hW.cell (p := ⟨w.heap.size, 0, none⟩) hz).trans (by rw [hW0, World.cell?_alloc_past _ _ _ (by simp)]; exact cell_new _ _ rfl _ _ 0 _ rfl), (hW.cell (p := ⟨w.heap.size, 1, none⟩) hz).trans (by rw [hW0, World.cell?_alloc_past _ _ _ (by simp)]; exact cell_new _ _ rfl _ _ 1 _ rfl), (hW.cell (p := ⟨w.heap.size, 2, none⟩) hz).trans (by rw [hW0, World.cell?_alloc_past _ _ _ (by simp)]; exact cell_new _ _ rfl _ _ 2 _ rfl), (hW.cell (p := ⟨w.heap.size, 3, none⟩) hz).trans (by rw [hW0, World.cell?_alloc_past _ _ _ (by simp)]; exact cell_new _ _ rfl _ _ 3 _ rfl), (hW.cell (p := ⟨w.heap.size, 4, none⟩) hz).trans (by rw [hW0, World.cell?_alloc_past _ _ _ (by simp)]; exact cell_new _ _ rfl _ _ 4 _ rfl), (hW.cell (p := ⟨w.heap.size, 5, none⟩) hz).trans (by rw [hW0, World.cell?_alloc_past _ _ _ (by simp)]; exact cell_new _ _ rfl _ _ 5 _ rfl), (hW.cell (p := ⟨w.heap.size, 6, none⟩) hz).trans (by rw [hW0, World.cell?_alloc_past _ _ _ (by simp)]; exact cell_new _ _ rfl _ _ 6 _ rfl), (hW.cell (p := ⟨w.heap.size, 7, none⟩) hz).trans (by rw [hW0, World.cell?_alloc_past _ _ _ (by simp)]; exact cell_new _ _ rfl _ _ 7 _ rfl), (hW.cell (p := ⟨w.heap.size, 8, none⟩) hz).trans (by rw [hW0, World.cell?_alloc_past _ _ _ (by simp)]; exact cell_new _ _ rfl _ _ 8 _ rfl), (hW.cell (p := ⟨w.heap.size, 9, none⟩) hz).trans (by rw [hW0, World.cell?_alloc_past _ _ _ (by simp)]; exact cell_new _ _ rfl _ _ 9 _ rfl), (hW.cell (p := ⟨w.heap.size, 10, none⟩) hz).trans (by rw [hW0, World.cell?_alloc_past _ _ _ (by simp)]; exact cell_new _ _ rfl _ _ 10 _ rfl), (hW.cell (p := ⟨w.heap.size, 11, none⟩) hz).trans (by rw [hW0, World.cell?_alloc_past _ _ _ (by simp)]; exact cell_new _ _ rfl _ _ 11 _ rfl), (hW.cell (p := ⟨w.heap.size, 12, none⟩) hz).trans (by rw [hW0, World.cell?_alloc_past _ _ _ (by simp)]; exact cell_new _ _ rfl _ _ 12 _ rfl)⟩, ⟨(hW.cell (p := ⟨w.heap.size + 1, 0, none⟩) hz').trans (by rw [hW0]; exact cell_new _ _ (by simp) _ _ 0 _ rfl), (hW.cell (p := ⟨w.heap.size + 1, 1, none⟩) hz').trans (by rw [hW0]; exact cell_new _ _ (by simp) _ _ 1 _ rfl), (hW.cell (p := ⟨w.heap.size + 1, 2, none⟩) hz').trans (by rw [hW0]; exact cell_new _ _ (by simp) _ _ 2 _ rfl), (hW.cell (p := ⟨w.heap.size + 1, 3, none⟩) hz').trans (by rw [hW0]; exact cell_new _ _ (by simp) _ _ 3 _ rfl), (hW.cell (p := ⟨w.heap.size + 1, 4, none⟩) hz').trans (by rw [hW0]; exact cell_new _ _ (by simp) _ _ 4 _ rfl), (hW.cell (p := ⟨w.heap.size + 1, 5, none⟩) hz').trans (by rw [hW0]; exact cell_new _ _ (by simp) _ _ 5 _ rfl), (hW.cell (p := ⟨w.heap.size + 1, 6, none⟩) hz').trans (by rw [hW0]; exact cell_new _ _ (by simp) _ _ 6 _ rfl), (hW.cell (p := ⟨w.heap.size + 1, 7, none⟩) hz').trans (by rw [hW0]; exact cell_new _ _ (by simp) _ _ 7 _ rfl), (hW.cell (p := ⟨w.heap.size + 1, 8, none⟩) hz').trans (by rw [hW0]; exact cell_new _ _ (by simp) _ _ 8 _ rfl), (hW.cell (p := ⟨w.heap.size + 1, 9, none⟩) hz').trans (by rw [hW0]; exact cell_new _ _ (by simp) _ _ 9 _ rfl), (hW.cell (p := ⟨w.heap.size + 1, 10, none⟩) hz').trans (by rw [hW0]; exact cell_new _ _ (by simp) _ _ 10 _ rfl), (hW.cell (p := ⟨w.heap.size + 1, 11, none⟩) hz').trans (by rw [hW0]; exact cell_new _ _ (by simp) _ _ 11 _ rfl), (hW.cell (p := ⟨w.heap.size + 1, 12, none⟩) hz').trans (by rw [hW0]; exact cell_new _ _ (by simp) _ _ 12 _ rfl)⟩⟩
  have HF1 := Lib.hid (fun W (hW : Below W0.heap.size W0 W) => few_any v1 l W (hs1.below (hw0.trans (hW.mono hw0.size))))
  have HSO := Lib.hid (fun (hl : l.length ≤ 1000) W (hW : Below W0.heap.size W0 W) => sort_any v1 l W (hs1.below (hw0.trans (hW.mono hw0.size))) hn1 hl)
  have HOF := Lib.hid (fun (hl : l.length ≤ 1000) W (hW : Below W0.heap.size W0 W) => of_any v1 l W (hs1.below (hw0.trans (hW.mono hw0.size))) hn1 hl)
  have HNZ : Hid (∀ y ∈ putOp (putOp (sortOps l) o) x, y.Small) := Lib.hid fun y hy => by
    rcases mem_putOp.1 hy with hy | ⟨rfl, _⟩
    · rcases mem_putOp.1 hy with hy | ⟨rfl, _⟩
      · exact hn1 y (sort_sub hy)
      · exact h_o
    · exact h_x
  have HSM := Lib.hid (And.intro h_o h_x)
  obtain ⟨a1, c1, rfl⟩ := hs1.len
  clear hs1 hn1 h_o h_x hw0 hz0
  unfold Op.v
  cases hf1 : decide (l.length ≤ 60) with
  | false =>
    rw [hf1] at HF1
    clear hf1
    go_enter Tryz.func9, Tryz.ntmps9
    go_wp2_with fail
    rw [← hW0]
    clear hW0
    obtain ⟨⟨_, _, _, _, _, _, _, _, _, _, _, _, _⟩, ⟨_, _, _, _, _, _, _, _, _, _, _, _, _⟩⟩ := HJ.out W0 HB0.out
    go_wp2_with fail
    refine (shown_any _).mono ?_
    rintro e w1 ⟨rfl, hb1⟩
    obtain ⟨hc1, hf1⟩ := bcell hb1
    have hs1 := hb1.size
    try simp only [size_drew] at hs1
    try simp only [World.size_alloc] at hs1
    try simp only [size_setCell'] at hs1
    try have le1_0 : W0.heap.size ≤ w1.heap.size := (by omega)
    try have lt1_0 : W0.heap.size < w1.heap.size := (by omega)
    have HB1 : Hid (Below W0.heap.size W0 w1) := Lib.hid (Below.trans (by first | exact HB0.out | exact HB0.out.alloc HB0.out.size _ | exact (HB0.out.alloc HB0.out.size _).alloc (le_al HB0.out.size) _ | exact ((HB0.out.alloc HB0.out.size _).alloc (le_al HB0.out.size) _).alloc (le_al (le_al HB0.out.size)) _ | exact HB0.out.drew | exact (HB0.out.alloc HB0.out.size _).drew | exact ((HB0.out.alloc HB0.out.size _).alloc (le_al HB0.out.size) _).drew) (hb1.mono (by (try simp only [size_drew]); (try simp only [World.size_alloc]); (try simp only [size_setCell']); omega)))
    have HN1 := Lib.hid hb1
    clear hb1 hs1
    obtain ⟨⟨_, _, _, _, _, _, _, _, _, _, _, _, _⟩, ⟨_, _, _, _, _, _, _, _, _, _, _, _, _⟩⟩ := HJ.out _ HB1.out
    go_wp2_with (go_at_call 35; refine (HF1.out _ HB1.out).mono ?_; rintro y w' ⟨rfl, rfl⟩)
    go_ret
    exact ⟨rfl, HW.out.1.trans ((show Below W0.heap.size W0 _ from (by first | exact HB1.out | exact HB1.out.alloc HB1.out.size _ | exact (HB1.out.alloc HB1.out.size _).alloc (le_al HB1.out.size) _ | exact ((HB1.out.alloc HB1.out.size _).alloc (le_al HB1.out.size) _).alloc (le_al (le_al HB1.out.size)) _ | exact HB1.out.drew | exact (HB1.out.alloc HB1.out.size _).drew | exact ((HB1.out.alloc HB1.out.size _).alloc (le_al HB1.out.size) _).drew)).mono HW.out.1.size)⟩
  | true =>
    rw [hf1] at HF1
    have HL6 : Hid (l.length ≤ 60) := Lib.hid (of_decide_eq_true hf1)
    have HL1 : Hid (l.length ≤ 1000) := Lib.hid (by have := HL6.out; omega)
    clear hf1
    by_cases ho : o.kind = 10
    · have hob : (o.kind != 10) = false := by rw [ho]; rfl
      by_cases hx : x.kind = 8
      · have hxb : (x.kind != 8) = false := by rw [hx]; rfl
        have HEQ : ∀ w, (binOp .eql 31 (.agg #[.int .i64 o.ino.t, .int .i64 o.ino.r]) (.agg #[.int .i64 x.ino.t, .int .i64 x.ino.r])).run Tryz.prog w = .ok (.bool (decide (o.ino = x.ino))) w := eql_st _ _
        by_cases hi : o.ino = x.ino
        · rw [decide_eq_true hi] at HEQ
          clear ho hx hi
          go_enter Tryz.func9, Tryz.ntmps9
          go_wp2_with fail
          rw [← hW0]
          clear hW0
          obtain ⟨⟨_, _, _, _, _, _, _, _, _, _, _, _, _⟩, ⟨_, _, _, _, _, _, _, _, _, _, _, _, _⟩⟩ := HJ.out W0 HB0.out
          go_wp2_with fail
          refine (shown_any _).mono ?_
          rintro e w1 ⟨rfl, hb1⟩
          obtain ⟨hc1, hf1⟩ := bcell hb1
          have hs1 := hb1.size
          try simp only [size_drew] at hs1
          try simp only [World.size_alloc] at hs1
          try simp only [size_setCell'] at hs1
          try have le1_0 : W0.heap.size ≤ w1.heap.size := (by omega)
          try have lt1_0 : W0.heap.size < w1.heap.size := (by omega)
          have HB1 : Hid (Below W0.heap.size W0 w1) := Lib.hid (Below.trans (by first | exact HB0.out | exact HB0.out.alloc HB0.out.size _ | exact (HB0.out.alloc HB0.out.size _).alloc (le_al HB0.out.size) _ | exact ((HB0.out.alloc HB0.out.size _).alloc (le_al HB0.out.size) _).alloc (le_al (le_al HB0.out.size)) _ | exact HB0.out.drew | exact (HB0.out.alloc HB0.out.size _).drew | exact ((HB0.out.alloc HB0.out.size _).alloc (le_al HB0.out.size) _).drew) (hb1.mono (by (try simp only [size_drew]); (try simp only [World.size_alloc]); (try simp only [size_setCell']); omega)))
          have HN1 := Lib.hid hb1
          clear hb1 hs1
          obtain ⟨⟨_, _, _, _, _, _, _, _, _, _, _, _, _⟩, ⟨_, _, _, _, _, _, _, _, _, _, _, _, _⟩⟩ := HJ.out _ HB1.out
          go_wp2_with (go_at_call 35; refine (HF1.out _ HB1.out).mono ?_; rintro y w' ⟨rfl, rfl⟩)
          go_wp2
          go_ret
          exact ⟨rfl, HW.out.1.trans ((show Below W0.heap.size W0 _ from (by first | exact HB1.out | exact HB1.out.alloc HB1.out.size _ | exact (HB1.out.alloc HB1.out.size _).alloc (le_al HB1.out.size) _ | exact ((HB1.out.alloc HB1.out.size _).alloc (le_al HB1.out.size) _).alloc (le_al (le_al HB1.out.size)) _ | exact HB1.out.drew | exact (HB1.out.alloc HB1.out.size _).drew | exact ((HB1.out.alloc HB1.out.size _).alloc (le_al HB1.out.size) _).drew)).mono HW.out.1.size)⟩
        · rw [decide_eq_false hi] at HEQ
          obtain ⟨e1, e2, e3, e4⟩ := later_law l ho hx hi
          have hse := sort_len l
          have HLS : Hid ((sortOps l).length ≤ 60) := Lib.hid (Nat.le_trans hse HL6.out)
          have hly := putOp_len (sortOps l) o
          have hlz := putOp_len (putOp (sortOps l) o) x
          have HLY : Hid ((putOp (sortOps l) o).length ≤ 61 ∧ (putOp (putOp (sortOps l) o) x).length ≤ 62) := Lib.hid (by
            have := HLS.out
            constructor
            · rw [hly]; split <;> omega
            · rw [hlz, hly]; split <;> split <;> omega)
          have HRI : Hid (RisesO (sortOps l) ∧ RisesO (putOp (sortOps l) o)) := Lib.hid ⟨sort_rises l, putOp_rises (sort_rises l) o⟩
          have hok1 := ofOps_ok l
          have hok2 := ofOps_ok (putOp (putOp (sortOps l) o) x)
          have hwy : IntKind.i64.wrap (((putOp (sortOps l) o).length : Int) + 1) = ((putOp (sortOps l) o).length : Int) + 1 := wrapNat ((putOp (sortOps l) o).length + 1) (by have := HLY.out; omega)
          have hlz' : putB (putOp (sortOps l) o) x = true → (((putOp (putOp (sortOps l) o) x).length : Int) == ((putOp (sortOps l) o).length : Int) + 1) = true := fun hp => by rw [hlz, if_pos hp]; simp
          have HLZ := Lib.hid hlz'
          have h1e : (((ofOps (putOp (putOp (sortOps l) o) x)).e.length : Int) == ((ofOps l).e.length : Int)) = true := by rw [e1]; simp
          have h2e : (((ofOps (putOp (putOp (sortOps l) o) x)).n.length : Int) == ((ofOps l).n.length : Int)) = true := by rw [e2]; simp
          clear ho hx hi e1 e2 hse hly hlz hlz'
          generalize hZZ : putOp (putOp (sortOps l) o) x = Z at *
          generalize hYY : putOp (sortOps l) o = Y at *
          generalize sortOps l = L at *
          obtain ⟨i1, hi1⟩ : ∃ i, (ofOps l).got o.ino = i := ⟨_, rfl⟩
          obtain ⟨i2, hi2⟩ : ∃ i, (ofOps Z).got o.ino = i := ⟨_, rfl⟩
          rw [hi1, hi2] at e3 e4
          have HI1 := Lib.hid hi1
          have HI2 := Lib.hid hi2
          obtain ⟨j1, k1, l1, m1, d1⟩ := i1
          obtain ⟨j2, k2, l2, m2, d2⟩ := i2
          simp only at e3 e4
          subst e3
          subst e4
          clear hi1 hi2
          have HFW : Hid ((ofOps l).e.length ≤ 1000 ∧ (ofOps Z).e.length ≤ 1000) := Lib.hid ⟨by have := hok1.few; omega, by have := hok2.few; omega⟩
          have HK1 := Lib.hid hok1
          have HK2 := Lib.hid hok2
          clear hok1 hok2
          go_enter Tryz.func9, Tryz.ntmps9
          go_wp2_with fail
          rw [← hW0]
          clear hW0
          obtain ⟨⟨_, _, _, _, _, _, _, _, _, _, _, _, _⟩, ⟨_, _, _, _, _, _, _, _, _, _, _, _, _⟩⟩ := HJ.out W0 HB0.out
          go_wp2_with fail
          refine (shown_any _).mono ?_
          rintro e w1 ⟨rfl, hb1⟩
          obtain ⟨hc1, hf1⟩ := bcell hb1
          have hs1 := hb1.size
          try simp only [size_drew] at hs1
          try simp only [World.size_alloc] at hs1
          try simp only [size_setCell'] at hs1
          try have le1_0 : W0.heap.size ≤ w1.heap.size := (by omega)
          try have lt1_0 : W0.heap.size < w1.heap.size := (by omega)
          have HB1 : Hid (Below W0.heap.size W0 w1) := Lib.hid (Below.trans (by first | exact HB0.out | exact HB0.out.alloc HB0.out.size _ | exact (HB0.out.alloc HB0.out.size _).alloc (le_al HB0.out.size) _ | exact ((HB0.out.alloc HB0.out.size _).alloc (le_al HB0.out.size) _).alloc (le_al (le_al HB0.out.size)) _ | exact HB0.out.drew | exact (HB0.out.alloc HB0.out.size _).drew | exact ((HB0.out.alloc HB0.out.size _).alloc (le_al HB0.out.size) _).drew) (hb1.mono (by (try simp only [size_drew]); (try simp only [World.size_alloc]); (try simp only [size_setCell']); omega)))
          have HN1 := Lib.hid hb1
          clear hb1 hs1
          obtain ⟨⟨_, _, _, _, _, _, _, _, _, _, _, _, _⟩, ⟨_, _, _, _, _, _, _, _, _, _, _, _, _⟩⟩ := HJ.out _ HB1.out
          go_wp2_with (go_at_call 35; refine (HF1.out _ HB1.out).mono ?_; rintro y w' ⟨rfl, rfl⟩)
          have HP1 : Hid (∀ (W : World) (v : Value), SlAt W 13 Op.cells v L → Calls Tryz.prog 37 #[v, (.agg #[.int .i64 o.stamp.t, .int .i64 o.stamp.r, .int .i64 o.kind, .int .i64 o.at_.t, .int .i64 o.at_.r, .int .i64 o.ino.t, .int .i64 o.ino.r, .int .i64 o.to.t, .int .i64 o.to.r, .string o.name, .string o.new, .int .i64 o.off, .string o.data])] W fun e w' => ∃ v', e = .returned (.tuple #[v', .int .i64 (placeOf L o), .bool (putB L o)]) ∧ SlAt w' 13 Op.cells v' Y ∧ Below W.heap.size W w') := Lib.hid fun W v h => (put_any v L o W h HRI.out.1 (by have := HLS.out; omega) HSM.out.1).mono fun e w' ⟨v', k1, k2, k3, k4⟩ => ⟨v', k1, hYY ▸ put_sl h k4 k2 k3, k4⟩
          have HP2 : Hid (∀ (W : World) (v : Value), SlAt W 13 Op.cells v Y → Calls Tryz.prog 37 #[v, (.agg #[.int .i64 x.stamp.t, .int .i64 x.stamp.r, .int .i64 x.kind, .int .i64 x.at_.t, .int .i64 x.at_.r, .int .i64 x.ino.t, .int .i64 x.ino.r, .int .i64 x.to.t, .int .i64 x.to.r, .string x.name, .string x.new, .int .i64 x.off, .string x.data])] W fun e w' => ∃ v', e = .returned (.tuple #[v', .int .i64 (placeOf Y x), .bool (putB Y x)]) ∧ SlAt w' 13 Op.cells v' Z ∧ Below W.heap.size W w') := Lib.hid fun W v h => (put_any v Y x W h HRI.out.2 (by have := HLY.out; omega) HSM.out.2).mono fun e w' ⟨v', k1, k2, k3, k4⟩ => ⟨v', k1, hZZ ▸ put_sl h k4 k2 k3, k4⟩
          clear hYY hZZ
          generalize placeOf L o = P1 at *
          generalize placeOf Y x = P2 at *
          generalize putB L o = q1 at *
          generalize putB Y x = q2 at *
          go_wp2_with fail
          go_region_held3 (fun W : World => W.cell? ⟨w.heap.size, 0, none⟩ = some (.int .i64 o.stamp.t) ∧ W.cell? ⟨w.heap.size, 1, none⟩ = some (.int .i64 o.stamp.r) ∧ W.cell? ⟨w.heap.size, 2, none⟩ = some (.int .i64 o.kind) ∧ W.cell? ⟨w.heap.size, 3, none⟩ = some (.int .i64 o.at_.t) ∧ W.cell? ⟨w.heap.size, 4, none⟩ = some (.int .i64 o.at_.r) ∧ W.cell? ⟨w.heap.size, 5, none⟩ = some (.int .i64 o.ino.t) ∧ W.cell? ⟨w.heap.size, 6, none⟩ = some (.int .i64 o.ino.r) ∧ W.cell? ⟨w.heap.size, 7, none⟩ = some (.int .i64 o.to.t) ∧ W.cell? ⟨w.heap.size, 8, none⟩ = some (.int .i64 o.to.r) ∧ W.cell? ⟨w.heap.size, 9, none⟩ = some (.string o.name) ∧ W.cell? ⟨w.heap.size, 10, none⟩ = some (.string o.new) ∧ W.cell? ⟨w.heap.size, 11, none⟩ = some (.int .i64 o.off) ∧ W.cell? ⟨w.heap.size, 12, none⟩ = some (.string o.data)) (first | exact (HJ.out _ (by first | exact HB3.out | exact HB3.out.alloc HB3.out.size _ | exact (HB3.out.alloc HB3.out.size _).alloc (le_al HB3.out.size) _ | exact ((HB3.out.alloc HB3.out.size _).alloc (le_al HB3.out.size) _).alloc (le_al (le_al HB3.out.size)) _ | exact HB3.out.drew | exact (HB3.out.alloc HB3.out.size _).drew | exact ((HB3.out.alloc HB3.out.size _).alloc (le_al HB3.out.size) _).drew | exact HB2.out | exact HB2.out.alloc HB2.out.size _ | exact (HB2.out.alloc HB2.out.size _).alloc (le_al HB2.out.size) _ | exact ((HB2.out.alloc HB2.out.size _).alloc (le_al HB2.out.size) _).alloc (le_al (le_al HB2.out.size)) _ | exact HB2.out.drew | exact (HB2.out.alloc HB2.out.size _).drew | exact ((HB2.out.alloc HB2.out.size _).alloc (le_al HB2.out.size) _).drew | exact HB1.out | exact HB1.out.alloc HB1.out.size _ | exact (HB1.out.alloc HB1.out.size _).alloc (le_al HB1.out.size) _ | exact ((HB1.out.alloc HB1.out.size _).alloc (le_al HB1.out.size) _).alloc (le_al (le_al HB1.out.size)) _ | exact HB1.out.drew | exact (HB1.out.alloc HB1.out.size _).drew | exact ((HB1.out.alloc HB1.out.size _).alloc (le_al HB1.out.size) _).drew)).1 | go_keep) (first
            | (go_at_call 36; (with_reducible refine (HSO.out HL1.out _ (by first | exact HB1.out | exact HB1.out.alloc HB1.out.size _ | exact (HB1.out.alloc HB1.out.size _).alloc (le_al HB1.out.size) _ | exact ((HB1.out.alloc HB1.out.size _).alloc (le_al HB1.out.size) _).alloc (le_al (le_al HB1.out.size)) _ | exact HB1.out.drew | exact (HB1.out.alloc HB1.out.size _).drew | exact ((HB1.out.alloc HB1.out.size _).alloc (le_al HB1.out.size) _).drew | exact HB0.out | exact HB0.out.alloc HB0.out.size _ | exact (HB0.out.alloc HB0.out.size _).alloc (le_al HB0.out.size) _ | exact ((HB0.out.alloc HB0.out.size _).alloc (le_al HB0.out.size) _).alloc (le_al (le_al HB0.out.size)) _ | exact HB0.out.drew | exact (HB0.out.alloc HB0.out.size _).drew | exact ((HB0.out.alloc HB0.out.size _).alloc (le_al HB0.out.size) _).drew)).mono ?_); rintro e w2 ⟨v2, rfl, hr2, hb2⟩; obtain ⟨hc2, hf2⟩ := bcell hb2; have hs2 := hb2.size; (try simp only [size_drew] at hs2); (try simp only [World.size_alloc] at hs2); (try simp only [size_setCell'] at hs2); (try have le2_0 : W0.heap.size ≤ w2.heap.size := (by omega)); (try have lt2_0 : W0.heap.size < w2.heap.size := (by omega)); (try have le2_1 : w1.heap.size ≤ w2.heap.size := (by omega)); (try have lt2_1 : w1.heap.size < w2.heap.size := (by omega)); have HB2 : Hid (Below W0.heap.size W0 w2) := Lib.hid (Below.trans (by first | exact HB1.out | exact HB1.out.alloc HB1.out.size _ | exact (HB1.out.alloc HB1.out.size _).alloc (le_al HB1.out.size) _ | exact ((HB1.out.alloc HB1.out.size _).alloc (le_al HB1.out.size) _).alloc (le_al (le_al HB1.out.size)) _ | exact HB1.out.drew | exact (HB1.out.alloc HB1.out.size _).drew | exact ((HB1.out.alloc HB1.out.size _).alloc (le_al HB1.out.size) _).drew | exact HB0.out | exact HB0.out.alloc HB0.out.size _ | exact (HB0.out.alloc HB0.out.size _).alloc (le_al HB0.out.size) _ | exact ((HB0.out.alloc HB0.out.size _).alloc (le_al HB0.out.size) _).alloc (le_al (le_al HB0.out.size)) _ | exact HB0.out.drew | exact (HB0.out.alloc HB0.out.size _).drew | exact ((HB0.out.alloc HB0.out.size _).alloc (le_al HB0.out.size) _).drew) (hb2.mono (by (try simp only [size_drew]); (try simp only [World.size_alloc]); (try simp only [size_setCell']); omega))); have HN2 := Lib.hid hb2; clear hb2 hs2; have HR2 := Lib.hid hr2; obtain ⟨sa, sc, rfl⟩ := hr2.shape; clear hr2)
            | (go_at_call 37; (with_reducible refine (HP1.out w2 _ HR2.out.sl).mono ?_); rintro e w3 ⟨v3, rfl, hy3, hb3⟩; obtain ⟨hc3, hf3⟩ := bcell hb3; have hs3 := hb3.size; (try simp only [size_drew] at hs3); (try simp only [World.size_alloc] at hs3); (try simp only [size_setCell'] at hs3); (try have le3_0 : W0.heap.size ≤ w3.heap.size := (by omega)); (try have lt3_0 : W0.heap.size < w3.heap.size := (by omega)); (try have le3_1 : w1.heap.size ≤ w3.heap.size := (by omega)); (try have lt3_1 : w1.heap.size < w3.heap.size := (by omega)); (try have le3_2 : w2.heap.size ≤ w3.heap.size := (by omega)); (try have lt3_2 : w2.heap.size < w3.heap.size := (by omega)); have HB3 : Hid (Below W0.heap.size W0 w3) := Lib.hid (Below.trans (by first | exact HB2.out | exact HB2.out.alloc HB2.out.size _ | exact (HB2.out.alloc HB2.out.size _).alloc (le_al HB2.out.size) _ | exact ((HB2.out.alloc HB2.out.size _).alloc (le_al HB2.out.size) _).alloc (le_al (le_al HB2.out.size)) _ | exact HB2.out.drew | exact (HB2.out.alloc HB2.out.size _).drew | exact ((HB2.out.alloc HB2.out.size _).alloc (le_al HB2.out.size) _).drew | exact HB1.out | exact HB1.out.alloc HB1.out.size _ | exact (HB1.out.alloc HB1.out.size _).alloc (le_al HB1.out.size) _ | exact ((HB1.out.alloc HB1.out.size _).alloc (le_al HB1.out.size) _).alloc (le_al (le_al HB1.out.size)) _ | exact HB1.out.drew | exact (HB1.out.alloc HB1.out.size _).drew | exact ((HB1.out.alloc HB1.out.size _).alloc (le_al HB1.out.size) _).drew | exact HB0.out | exact HB0.out.alloc HB0.out.size _ | exact (HB0.out.alloc HB0.out.size _).alloc (le_al HB0.out.size) _ | exact ((HB0.out.alloc HB0.out.size _).alloc (le_al HB0.out.size) _).alloc (le_al (le_al HB0.out.size)) _ | exact HB0.out.drew | exact (HB0.out.alloc HB0.out.size _).drew | exact ((HB0.out.alloc HB0.out.size _).alloc (le_al HB0.out.size) _).drew) (hb3.mono (by (try simp only [size_drew]); (try simp only [World.size_alloc]); (try simp only [size_setCell']); omega))); have HN3 := Lib.hid hb3; clear hb3 hs3; have HY3 := Lib.hid hy3; obtain ⟨ya, yc, rfl⟩ := hy3.len; clear hy3))
          obtain ⟨⟨_, _, _, _, _, _, _, _, _, _, _, _, _⟩, ⟨_, _, _, _, _, _, _, _, _, _, _, _, _⟩⟩ := HJ.out _ HB3.out
          go_wp2_with fail
          refine (HP2.out w3 _ HY3.out).mono ?_
          rintro e w4 ⟨v4, rfl, hz4, hb4⟩
          obtain ⟨hc4, hf4⟩ := bcell hb4
          have hs4 := hb4.size
          try simp only [size_drew] at hs4
          try simp only [World.size_alloc] at hs4
          try simp only [size_setCell'] at hs4
          try have le4_0 : W0.heap.size ≤ w4.heap.size := (by omega)
          try have lt4_0 : W0.heap.size < w4.heap.size := (by omega)
          try have le4_1 : w1.heap.size ≤ w4.heap.size := (by omega)
          try have lt4_1 : w1.heap.size < w4.heap.size := (by omega)
          try have le4_2 : w2.heap.size ≤ w4.heap.size := (by omega)
          try have lt4_2 : w2.heap.size < w4.heap.size := (by omega)
          try have le4_3 : w3.heap.size ≤ w4.heap.size := (by omega)
          try have lt4_3 : w3.heap.size < w4.heap.size := (by omega)
          have HB4 : Hid (Below W0.heap.size W0 w4) := Lib.hid (Below.trans (by first | exact HB3.out | exact HB3.out.alloc HB3.out.size _ | exact (HB3.out.alloc HB3.out.size _).alloc (le_al HB3.out.size) _ | exact ((HB3.out.alloc HB3.out.size _).alloc (le_al HB3.out.size) _).alloc (le_al (le_al HB3.out.size)) _ | exact HB3.out.drew | exact (HB3.out.alloc HB3.out.size _).drew | exact ((HB3.out.alloc HB3.out.size _).alloc (le_al HB3.out.size) _).drew | exact HB2.out | exact HB2.out.alloc HB2.out.size _ | exact (HB2.out.alloc HB2.out.size _).alloc (le_al HB2.out.size) _ | exact ((HB2.out.alloc HB2.out.size _).alloc (le_al HB2.out.size) _).alloc (le_al (le_al HB2.out.size)) _ | exact HB2.out.drew | exact (HB2.out.alloc HB2.out.size _).drew | exact ((HB2.out.alloc HB2.out.size _).alloc (le_al HB2.out.size) _).drew | exact HB1.out | exact HB1.out.alloc HB1.out.size _ | exact (HB1.out.alloc HB1.out.size _).alloc (le_al HB1.out.size) _ | exact ((HB1.out.alloc HB1.out.size _).alloc (le_al HB1.out.size) _).alloc (le_al (le_al HB1.out.size)) _ | exact HB1.out.drew | exact (HB1.out.alloc HB1.out.size _).drew | exact ((HB1.out.alloc HB1.out.size _).alloc (le_al HB1.out.size) _).drew | exact HB0.out | exact HB0.out.alloc HB0.out.size _ | exact (HB0.out.alloc HB0.out.size _).alloc (le_al HB0.out.size) _ | exact ((HB0.out.alloc HB0.out.size _).alloc (le_al HB0.out.size) _).alloc (le_al (le_al HB0.out.size)) _ | exact HB0.out.drew | exact (HB0.out.alloc HB0.out.size _).drew | exact ((HB0.out.alloc HB0.out.size _).alloc (le_al HB0.out.size) _).drew) (hb4.mono (by (try simp only [size_drew]); (try simp only [World.size_alloc]); (try simp only [size_setCell']); omega)))
          have HN4 := Lib.hid hb4
          clear hb4 hs4
          have HZ4 := Lib.hid hz4
          obtain ⟨za, zc, rfl⟩ := hz4.len
          clear hz4
          obtain ⟨⟨_, _, _, _, _, _, _, _, _, _, _, _, _⟩, ⟨_, _, _, _, _, _, _, _, _, _, _, _, _⟩⟩ := HJ.out _ HB4.out
          go_wp2_with fail
          refine (HOF.out HL1.out _ (by first | exact HB4.out | exact HB4.out.alloc HB4.out.size _ | exact (HB4.out.alloc HB4.out.size _).alloc (le_al HB4.out.size) _ | exact ((HB4.out.alloc HB4.out.size _).alloc (le_al HB4.out.size) _).alloc (le_al (le_al HB4.out.size)) _ | exact HB4.out.drew | exact (HB4.out.alloc HB4.out.size _).drew | exact ((HB4.out.alloc HB4.out.size _).alloc (le_al HB4.out.size) _).drew | exact HB3.out | exact HB3.out.alloc HB3.out.size _ | exact (HB3.out.alloc HB3.out.size _).alloc (le_al HB3.out.size) _ | exact ((HB3.out.alloc HB3.out.size _).alloc (le_al HB3.out.size) _).alloc (le_al (le_al HB3.out.size)) _ | exact HB3.out.drew | exact (HB3.out.alloc HB3.out.size _).drew | exact ((HB3.out.alloc HB3.out.size _).alloc (le_al HB3.out.size) _).drew | exact HB2.out | exact HB2.out.alloc HB2.out.size _ | exact (HB2.out.alloc HB2.out.size _).alloc (le_al HB2.out.size) _ | exact ((HB2.out.alloc HB2.out.size _).alloc (le_al HB2.out.size) _).alloc (le_al (le_al HB2.out.size)) _ | exact HB2.out.drew | exact (HB2.out.alloc HB2.out.size _).drew | exact ((HB2.out.alloc HB2.out.size _).alloc (le_al HB2.out.size) _).drew | exact HB1.out | exact HB1.out.alloc HB1.out.size _ | exact (HB1.out.alloc HB1.out.size _).alloc (le_al HB1.out.size) _ | exact ((HB1.out.alloc HB1.out.size _).alloc (le_al HB1.out.size) _).alloc (le_al (le_al HB1.out.size)) _ | exact HB1.out.drew | exact (HB1.out.alloc HB1.out.size _).drew | exact ((HB1.out.alloc HB1.out.size _).alloc (le_al HB1.out.size) _).drew | exact HB0.out | exact HB0.out.alloc HB0.out.size _ | exact (HB0.out.alloc HB0.out.size _).alloc (le_al HB0.out.size) _ | exact ((HB0.out.alloc HB0.out.size _).alloc (le_al HB0.out.size) _).alloc (le_al (le_al HB0.out.size)) _ | exact HB0.out.drew | exact (HB0.out.alloc HB0.out.size _).drew | exact ((HB0.out.alloc HB0.out.size _).alloc (le_al HB0.out.size) _).drew)).mono ?_
          rintro e w5 ⟨v5, rfl, ⟨gb, mI, mE, rfl, hG5, _, _, _⟩, hb5⟩
          obtain ⟨hc5, hf5⟩ := bcell hb5
          have hs5 := hb5.size
          try simp only [size_drew] at hs5
          try simp only [World.size_alloc] at hs5
          try simp only [size_setCell'] at hs5
          try have le5_0 : W0.heap.size ≤ w5.heap.size := (by omega)
          try have lt5_0 : W0.heap.size < w5.heap.size := (by omega)
          try have le5_1 : w1.heap.size ≤ w5.heap.size := (by omega)
          try have lt5_1 : w1.heap.size < w5.heap.size := (by omega)
          try have le5_2 : w2.heap.size ≤ w5.heap.size := (by omega)
          try have lt5_2 : w2.heap.size < w5.heap.size := (by omega)
          try have le5_3 : w3.heap.size ≤ w5.heap.size := (by omega)
          try have lt5_3 : w3.heap.size < w5.heap.size := (by omega)
          try have le5_4 : w4.heap.size ≤ w5.heap.size := (by omega)
          try have lt5_4 : w4.heap.size < w5.heap.size := (by omega)
          have HB5 : Hid (Below W0.heap.size W0 w5) := Lib.hid (Below.trans (by first | exact HB4.out | exact HB4.out.alloc HB4.out.size _ | exact (HB4.out.alloc HB4.out.size _).alloc (le_al HB4.out.size) _ | exact ((HB4.out.alloc HB4.out.size _).alloc (le_al HB4.out.size) _).alloc (le_al (le_al HB4.out.size)) _ | exact HB4.out.drew | exact (HB4.out.alloc HB4.out.size _).drew | exact ((HB4.out.alloc HB4.out.size _).alloc (le_al HB4.out.size) _).drew | exact HB3.out | exact HB3.out.alloc HB3.out.size _ | exact (HB3.out.alloc HB3.out.size _).alloc (le_al HB3.out.size) _ | exact ((HB3.out.alloc HB3.out.size _).alloc (le_al HB3.out.size) _).alloc (le_al (le_al HB3.out.size)) _ | exact HB3.out.drew | exact (HB3.out.alloc HB3.out.size _).drew | exact ((HB3.out.alloc HB3.out.size _).alloc (le_al HB3.out.size) _).drew | exact HB2.out | exact HB2.out.alloc HB2.out.size _ | exact (HB2.out.alloc HB2.out.size _).alloc (le_al HB2.out.size) _ | exact ((HB2.out.alloc HB2.out.size _).alloc (le_al HB2.out.size) _).alloc (le_al (le_al HB2.out.size)) _ | exact HB2.out.drew | exact (HB2.out.alloc HB2.out.size _).drew | exact ((HB2.out.alloc HB2.out.size _).alloc (le_al HB2.out.size) _).drew | exact HB1.out | exact HB1.out.alloc HB1.out.size _ | exact (HB1.out.alloc HB1.out.size _).alloc (le_al HB1.out.size) _ | exact ((HB1.out.alloc HB1.out.size _).alloc (le_al HB1.out.size) _).alloc (le_al (le_al HB1.out.size)) _ | exact HB1.out.drew | exact (HB1.out.alloc HB1.out.size _).drew | exact ((HB1.out.alloc HB1.out.size _).alloc (le_al HB1.out.size) _).drew | exact HB0.out | exact HB0.out.alloc HB0.out.size _ | exact (HB0.out.alloc HB0.out.size _).alloc (le_al HB0.out.size) _ | exact ((HB0.out.alloc HB0.out.size _).alloc (le_al HB0.out.size) _).alloc (le_al (le_al HB0.out.size)) _ | exact HB0.out.drew | exact (HB0.out.alloc HB0.out.size _).drew | exact ((HB0.out.alloc HB0.out.size _).alloc (le_al HB0.out.size) _).drew) (hb5.mono (by (try simp only [size_drew]); (try simp only [World.size_alloc]); (try simp only [size_setCell']); omega)))
          have HN5 := Lib.hid hb5
          clear hb5 hs5
          have HR5 := Lib.hid (hG5.reads HK1.out HFW.out.1)
          have HZ5 := Lib.hid (HZ4.out.below HN5.out)
          clear hG5
          obtain ⟨⟨_, _, _, _, _, _, _, _, _, _, _, _, _⟩, ⟨_, _, _, _, _, _, _, _, _, _, _, _, _⟩⟩ := HJ.out _ HB5.out
          go_wp2_with fail
          refine (HR5.out.get o.ino ⟨j1, k1, _, m1, _⟩ _ w5 HI1.out rfl (Below.refl _ _)).mono ?_
          rintro e w6 ⟨rfl, hb6⟩
          obtain ⟨hc6, hf6⟩ := bcell hb6
          have hs6 := hb6.size
          try simp only [size_drew] at hs6
          try simp only [World.size_alloc] at hs6
          try simp only [size_setCell'] at hs6
          try have le6_0 : W0.heap.size ≤ w6.heap.size := (by omega)
          try have lt6_0 : W0.heap.size < w6.heap.size := (by omega)
          try have le6_1 : w1.heap.size ≤ w6.heap.size := (by omega)
          try have lt6_1 : w1.heap.size < w6.heap.size := (by omega)
          try have le6_2 : w2.heap.size ≤ w6.heap.size := (by omega)
          try have lt6_2 : w2.heap.size < w6.heap.size := (by omega)
          try have le6_3 : w3.heap.size ≤ w6.heap.size := (by omega)
          try have lt6_3 : w3.heap.size < w6.heap.size := (by omega)
          try have le6_4 : w4.heap.size ≤ w6.heap.size := (by omega)
          try have lt6_4 : w4.heap.size < w6.heap.size := (by omega)
          try have le6_5 : w5.heap.size ≤ w6.heap.size := (by omega)
          try have lt6_5 : w5.heap.size < w6.heap.size := (by omega)
          have HB6 : Hid (Below W0.heap.size W0 w6) := Lib.hid (Below.trans (by first | exact HB5.out | exact HB5.out.alloc HB5.out.size _ | exact (HB5.out.alloc HB5.out.size _).alloc (le_al HB5.out.size) _ | exact ((HB5.out.alloc HB5.out.size _).alloc (le_al HB5.out.size) _).alloc (le_al (le_al HB5.out.size)) _ | exact HB5.out.drew | exact (HB5.out.alloc HB5.out.size _).drew | exact ((HB5.out.alloc HB5.out.size _).alloc (le_al HB5.out.size) _).drew | exact HB4.out | exact HB4.out.alloc HB4.out.size _ | exact (HB4.out.alloc HB4.out.size _).alloc (le_al HB4.out.size) _ | exact ((HB4.out.alloc HB4.out.size _).alloc (le_al HB4.out.size) _).alloc (le_al (le_al HB4.out.size)) _ | exact HB4.out.drew | exact (HB4.out.alloc HB4.out.size _).drew | exact ((HB4.out.alloc HB4.out.size _).alloc (le_al HB4.out.size) _).drew | exact HB3.out | exact HB3.out.alloc HB3.out.size _ | exact (HB3.out.alloc HB3.out.size _).alloc (le_al HB3.out.size) _ | exact ((HB3.out.alloc HB3.out.size _).alloc (le_al HB3.out.size) _).alloc (le_al (le_al HB3.out.size)) _ | exact HB3.out.drew | exact (HB3.out.alloc HB3.out.size _).drew | exact ((HB3.out.alloc HB3.out.size _).alloc (le_al HB3.out.size) _).drew | exact HB2.out | exact HB2.out.alloc HB2.out.size _ | exact (HB2.out.alloc HB2.out.size _).alloc (le_al HB2.out.size) _ | exact ((HB2.out.alloc HB2.out.size _).alloc (le_al HB2.out.size) _).alloc (le_al (le_al HB2.out.size)) _ | exact HB2.out.drew | exact (HB2.out.alloc HB2.out.size _).drew | exact ((HB2.out.alloc HB2.out.size _).alloc (le_al HB2.out.size) _).drew | exact HB1.out | exact HB1.out.alloc HB1.out.size _ | exact (HB1.out.alloc HB1.out.size _).alloc (le_al HB1.out.size) _ | exact ((HB1.out.alloc HB1.out.size _).alloc (le_al HB1.out.size) _).alloc (le_al (le_al HB1.out.size)) _ | exact HB1.out.drew | exact (HB1.out.alloc HB1.out.size _).drew | exact ((HB1.out.alloc HB1.out.size _).alloc (le_al HB1.out.size) _).drew | exact HB0.out | exact HB0.out.alloc HB0.out.size _ | exact (HB0.out.alloc HB0.out.size _).alloc (le_al HB0.out.size) _ | exact ((HB0.out.alloc HB0.out.size _).alloc (le_al HB0.out.size) _).alloc (le_al (le_al HB0.out.size)) _ | exact HB0.out.drew | exact (HB0.out.alloc HB0.out.size _).drew | exact ((HB0.out.alloc HB0.out.size _).alloc (le_al HB0.out.size) _).drew) (hb6.mono (by (try simp only [size_drew]); (try simp only [World.size_alloc]); (try simp only [size_setCell']); omega)))
          have HN6 := Lib.hid hb6
          clear hb6 hs6
          have HR6 := Lib.hid (HR5.out.below HN6.out)
          have HZ6 := Lib.hid (HZ5.out.below HN6.out)
          generalize ((ofOps l).get o.ino).isSome = s1 at *
          obtain ⟨⟨_, _, _, _, _, _, _, _, _, _, _, _, _⟩, ⟨_, _, _, _, _, _, _, _, _, _, _, _, _⟩⟩ := HJ.out _ HB6.out
          go_wp2_with fail
          refine (of_any _ Z _ (HZ6.out.below ((New.refl _).alloc _).below) HNZ.out (by have := HLY.out; omega)).mono ?_
          rintro e w7 ⟨v7, rfl, ⟨hb, nI, nE, rfl, hG7, _, _, _⟩, hb7⟩
          obtain ⟨hc7, hf7⟩ := bcell hb7
          have hs7 := hb7.size
          try simp only [size_drew] at hs7
          try simp only [World.size_alloc] at hs7
          try simp only [size_setCell'] at hs7
          try have le7_0 : W0.heap.size ≤ w7.heap.size := (by omega)
          try have lt7_0 : W0.heap.size < w7.heap.size := (by omega)
          try have le7_1 : w1.heap.size ≤ w7.heap.size := (by omega)
          try have lt7_1 : w1.heap.size < w7.heap.size := (by omega)
          try have le7_2 : w2.heap.size ≤ w7.heap.size := (by omega)
          try have lt7_2 : w2.heap.size < w7.heap.size := (by omega)
          try have le7_3 : w3.heap.size ≤ w7.heap.size := (by omega)
          try have lt7_3 : w3.heap.size < w7.heap.size := (by omega)
          try have le7_4 : w4.heap.size ≤ w7.heap.size := (by omega)
          try have lt7_4 : w4.heap.size < w7.heap.size := (by omega)
          try have le7_5 : w5.heap.size ≤ w7.heap.size := (by omega)
          try have lt7_5 : w5.heap.size < w7.heap.size := (by omega)
          try have le7_6 : w6.heap.size ≤ w7.heap.size := (by omega)
          try have lt7_6 : w6.heap.size < w7.heap.size := (by omega)
          have HB7 : Hid (Below W0.heap.size W0 w7) := Lib.hid (Below.trans (by first | exact HB6.out | exact HB6.out.alloc HB6.out.size _ | exact (HB6.out.alloc HB6.out.size _).alloc (le_al HB6.out.size) _ | exact ((HB6.out.alloc HB6.out.size _).alloc (le_al HB6.out.size) _).alloc (le_al (le_al HB6.out.size)) _ | exact HB6.out.drew | exact (HB6.out.alloc HB6.out.size _).drew | exact ((HB6.out.alloc HB6.out.size _).alloc (le_al HB6.out.size) _).drew | exact HB5.out | exact HB5.out.alloc HB5.out.size _ | exact (HB5.out.alloc HB5.out.size _).alloc (le_al HB5.out.size) _ | exact ((HB5.out.alloc HB5.out.size _).alloc (le_al HB5.out.size) _).alloc (le_al (le_al HB5.out.size)) _ | exact HB5.out.drew | exact (HB5.out.alloc HB5.out.size _).drew | exact ((HB5.out.alloc HB5.out.size _).alloc (le_al HB5.out.size) _).drew | exact HB4.out | exact HB4.out.alloc HB4.out.size _ | exact (HB4.out.alloc HB4.out.size _).alloc (le_al HB4.out.size) _ | exact ((HB4.out.alloc HB4.out.size _).alloc (le_al HB4.out.size) _).alloc (le_al (le_al HB4.out.size)) _ | exact HB4.out.drew | exact (HB4.out.alloc HB4.out.size _).drew | exact ((HB4.out.alloc HB4.out.size _).alloc (le_al HB4.out.size) _).drew | exact HB3.out | exact HB3.out.alloc HB3.out.size _ | exact (HB3.out.alloc HB3.out.size _).alloc (le_al HB3.out.size) _ | exact ((HB3.out.alloc HB3.out.size _).alloc (le_al HB3.out.size) _).alloc (le_al (le_al HB3.out.size)) _ | exact HB3.out.drew | exact (HB3.out.alloc HB3.out.size _).drew | exact ((HB3.out.alloc HB3.out.size _).alloc (le_al HB3.out.size) _).drew | exact HB2.out | exact HB2.out.alloc HB2.out.size _ | exact (HB2.out.alloc HB2.out.size _).alloc (le_al HB2.out.size) _ | exact ((HB2.out.alloc HB2.out.size _).alloc (le_al HB2.out.size) _).alloc (le_al (le_al HB2.out.size)) _ | exact HB2.out.drew | exact (HB2.out.alloc HB2.out.size _).drew | exact ((HB2.out.alloc HB2.out.size _).alloc (le_al HB2.out.size) _).drew | exact HB1.out | exact HB1.out.alloc HB1.out.size _ | exact (HB1.out.alloc HB1.out.size _).alloc (le_al HB1.out.size) _ | exact ((HB1.out.alloc HB1.out.size _).alloc (le_al HB1.out.size) _).alloc (le_al (le_al HB1.out.size)) _ | exact HB1.out.drew | exact (HB1.out.alloc HB1.out.size _).drew | exact ((HB1.out.alloc HB1.out.size _).alloc (le_al HB1.out.size) _).drew | exact HB0.out | exact HB0.out.alloc HB0.out.size _ | exact (HB0.out.alloc HB0.out.size _).alloc (le_al HB0.out.size) _ | exact ((HB0.out.alloc HB0.out.size _).alloc (le_al HB0.out.size) _).alloc (le_al (le_al HB0.out.size)) _ | exact HB0.out.drew | exact (HB0.out.alloc HB0.out.size _).drew | exact ((HB0.out.alloc HB0.out.size _).alloc (le_al HB0.out.size) _).drew) (hb7.mono (by (try simp only [size_drew]); (try simp only [World.size_alloc]); (try simp only [size_setCell']); omega)))
          have HN7 := Lib.hid hb7
          clear hb7 hs7
          have HR7 := Lib.hid (hG7.reads HK2.out HFW.out.2)
          have HR6a := Lib.hid ((HR6.out.below ((New.refl _).alloc _).below).below HN7.out)
          clear hG7
          obtain ⟨⟨_, _, _, _, _, _, _, _, _, _, _, _, _⟩, ⟨_, _, _, _, _, _, _, _, _, _, _, _, _⟩⟩ := HJ.out _ HB7.out
          go_wp2_with fail
          refine (HR7.out.get o.ino ⟨j2, k2, _, m2, _⟩ _ w7 HI2.out rfl (Below.refl _ _)).mono ?_
          rintro e w8 ⟨rfl, hb8⟩
          obtain ⟨hc8, hf8⟩ := bcell hb8
          have hs8 := hb8.size
          try simp only [size_drew] at hs8
          try simp only [World.size_alloc] at hs8
          try simp only [size_setCell'] at hs8
          try have le8_0 : W0.heap.size ≤ w8.heap.size := (by omega)
          try have lt8_0 : W0.heap.size < w8.heap.size := (by omega)
          try have le8_1 : w1.heap.size ≤ w8.heap.size := (by omega)
          try have lt8_1 : w1.heap.size < w8.heap.size := (by omega)
          try have le8_2 : w2.heap.size ≤ w8.heap.size := (by omega)
          try have lt8_2 : w2.heap.size < w8.heap.size := (by omega)
          try have le8_3 : w3.heap.size ≤ w8.heap.size := (by omega)
          try have lt8_3 : w3.heap.size < w8.heap.size := (by omega)
          try have le8_4 : w4.heap.size ≤ w8.heap.size := (by omega)
          try have lt8_4 : w4.heap.size < w8.heap.size := (by omega)
          try have le8_5 : w5.heap.size ≤ w8.heap.size := (by omega)
          try have lt8_5 : w5.heap.size < w8.heap.size := (by omega)
          try have le8_6 : w6.heap.size ≤ w8.heap.size := (by omega)
          try have lt8_6 : w6.heap.size < w8.heap.size := (by omega)
          try have le8_7 : w7.heap.size ≤ w8.heap.size := (by omega)
          try have lt8_7 : w7.heap.size < w8.heap.size := (by omega)
          have HB8 : Hid (Below W0.heap.size W0 w8) := Lib.hid (Below.trans (by first | exact HB7.out | exact HB7.out.alloc HB7.out.size _ | exact (HB7.out.alloc HB7.out.size _).alloc (le_al HB7.out.size) _ | exact ((HB7.out.alloc HB7.out.size _).alloc (le_al HB7.out.size) _).alloc (le_al (le_al HB7.out.size)) _ | exact HB7.out.drew | exact (HB7.out.alloc HB7.out.size _).drew | exact ((HB7.out.alloc HB7.out.size _).alloc (le_al HB7.out.size) _).drew | exact HB6.out | exact HB6.out.alloc HB6.out.size _ | exact (HB6.out.alloc HB6.out.size _).alloc (le_al HB6.out.size) _ | exact ((HB6.out.alloc HB6.out.size _).alloc (le_al HB6.out.size) _).alloc (le_al (le_al HB6.out.size)) _ | exact HB6.out.drew | exact (HB6.out.alloc HB6.out.size _).drew | exact ((HB6.out.alloc HB6.out.size _).alloc (le_al HB6.out.size) _).drew | exact HB5.out | exact HB5.out.alloc HB5.out.size _ | exact (HB5.out.alloc HB5.out.size _).alloc (le_al HB5.out.size) _ | exact ((HB5.out.alloc HB5.out.size _).alloc (le_al HB5.out.size) _).alloc (le_al (le_al HB5.out.size)) _ | exact HB5.out.drew | exact (HB5.out.alloc HB5.out.size _).drew | exact ((HB5.out.alloc HB5.out.size _).alloc (le_al HB5.out.size) _).drew | exact HB4.out | exact HB4.out.alloc HB4.out.size _ | exact (HB4.out.alloc HB4.out.size _).alloc (le_al HB4.out.size) _ | exact ((HB4.out.alloc HB4.out.size _).alloc (le_al HB4.out.size) _).alloc (le_al (le_al HB4.out.size)) _ | exact HB4.out.drew | exact (HB4.out.alloc HB4.out.size _).drew | exact ((HB4.out.alloc HB4.out.size _).alloc (le_al HB4.out.size) _).drew | exact HB3.out | exact HB3.out.alloc HB3.out.size _ | exact (HB3.out.alloc HB3.out.size _).alloc (le_al HB3.out.size) _ | exact ((HB3.out.alloc HB3.out.size _).alloc (le_al HB3.out.size) _).alloc (le_al (le_al HB3.out.size)) _ | exact HB3.out.drew | exact (HB3.out.alloc HB3.out.size _).drew | exact ((HB3.out.alloc HB3.out.size _).alloc (le_al HB3.out.size) _).drew | exact HB2.out | exact HB2.out.alloc HB2.out.size _ | exact (HB2.out.alloc HB2.out.size _).alloc (le_al HB2.out.size) _ | exact ((HB2.out.alloc HB2.out.size _).alloc (le_al HB2.out.size) _).alloc (le_al (le_al HB2.out.size)) _ | exact HB2.out.drew | exact (HB2.out.alloc HB2.out.size _).drew | exact ((HB2.out.alloc HB2.out.size _).alloc (le_al HB2.out.size) _).drew | exact HB1.out | exact HB1.out.alloc HB1.out.size _ | exact (HB1.out.alloc HB1.out.size _).alloc (le_al HB1.out.size) _ | exact ((HB1.out.alloc HB1.out.size _).alloc (le_al HB1.out.size) _).alloc (le_al (le_al HB1.out.size)) _ | exact HB1.out.drew | exact (HB1.out.alloc HB1.out.size _).drew | exact ((HB1.out.alloc HB1.out.size _).alloc (le_al HB1.out.size) _).drew | exact HB0.out | exact HB0.out.alloc HB0.out.size _ | exact (HB0.out.alloc HB0.out.size _).alloc (le_al HB0.out.size) _ | exact ((HB0.out.alloc HB0.out.size _).alloc (le_al HB0.out.size) _).alloc (le_al (le_al HB0.out.size)) _ | exact HB0.out.drew | exact (HB0.out.alloc HB0.out.size _).drew | exact ((HB0.out.alloc HB0.out.size _).alloc (le_al HB0.out.size) _).drew) (hb8.mono (by (try simp only [size_drew]); (try simp only [World.size_alloc]); (try simp only [size_setCell']); omega)))
          have HN8 := Lib.hid hb8
          clear hb8 hs8
          have HR7a := Lib.hid (HR7.out.below HN8.out)
          have HR6b := Lib.hid (HR6a.out.below HN8.out)
          generalize ((ofOps Z).get o.ino).isSome = s2 at *
          cases q1 with
          | false =>
            go_wp2
            go_ret
            exact ⟨rfl, HW.out.1.trans ((show Below W0.heap.size W0 _ from (by first | exact HB8.out | exact HB8.out.alloc HB8.out.size _ | exact (HB8.out.alloc HB8.out.size _).alloc (le_al HB8.out.size) _ | exact ((HB8.out.alloc HB8.out.size _).alloc (le_al HB8.out.size) _).alloc (le_al (le_al HB8.out.size)) _ | exact HB8.out.drew | exact (HB8.out.alloc HB8.out.size _).drew | exact ((HB8.out.alloc HB8.out.size _).alloc (le_al HB8.out.size) _).drew)).mono HW.out.1.size)⟩
          | true =>
            cases q2 with
            | false =>
              go_wp2
              go_ret
              exact ⟨rfl, HW.out.1.trans ((show Below W0.heap.size W0 _ from (by first | exact HB8.out | exact HB8.out.alloc HB8.out.size _ | exact (HB8.out.alloc HB8.out.size _).alloc (le_al HB8.out.size) _ | exact ((HB8.out.alloc HB8.out.size _).alloc (le_al HB8.out.size) _).alloc (le_al (le_al HB8.out.size)) _ | exact HB8.out.drew | exact (HB8.out.alloc HB8.out.size _).drew | exact ((HB8.out.alloc HB8.out.size _).alloc (le_al HB8.out.size) _).drew)).mono HW.out.1.size)⟩
            | true =>
              have hzy := HLZ.out rfl
              go_wp2_with fail
              refine (HR7a.out.entries _ ((New.refl _).alloc _).below).mono ?_
              rintro e w9 ⟨ea, ec, rfl, _, hb9⟩
              obtain ⟨hc9, hf9⟩ := bcell hb9
              have hs9 := hb9.size
              try simp only [size_drew] at hs9
              try simp only [World.size_alloc] at hs9
              try simp only [size_setCell'] at hs9
              try have le9_0 : W0.heap.size ≤ w9.heap.size := (by omega)
              try have lt9_0 : W0.heap.size < w9.heap.size := (by omega)
              try have le9_1 : w1.heap.size ≤ w9.heap.size := (by omega)
              try have lt9_1 : w1.heap.size < w9.heap.size := (by omega)
              try have le9_2 : w2.heap.size ≤ w9.heap.size := (by omega)
              try have lt9_2 : w2.heap.size < w9.heap.size := (by omega)
              try have le9_3 : w3.heap.size ≤ w9.heap.size := (by omega)
              try have lt9_3 : w3.heap.size < w9.heap.size := (by omega)
              try have le9_4 : w4.heap.size ≤ w9.heap.size := (by omega)
              try have lt9_4 : w4.heap.size < w9.heap.size := (by omega)
              try have le9_5 : w5.heap.size ≤ w9.heap.size := (by omega)
              try have lt9_5 : w5.heap.size < w9.heap.size := (by omega)
              try have le9_6 : w6.heap.size ≤ w9.heap.size := (by omega)
              try have lt9_6 : w6.heap.size < w9.heap.size := (by omega)
              try have le9_7 : w7.heap.size ≤ w9.heap.size := (by omega)
              try have lt9_7 : w7.heap.size < w9.heap.size := (by omega)
              try have le9_8 : w8.heap.size ≤ w9.heap.size := (by omega)
              try have lt9_8 : w8.heap.size < w9.heap.size := (by omega)
              have HB9 : Hid (Below W0.heap.size W0 w9) := Lib.hid (Below.trans (by first | exact HB8.out | exact HB8.out.alloc HB8.out.size _ | exact (HB8.out.alloc HB8.out.size _).alloc (le_al HB8.out.size) _ | exact ((HB8.out.alloc HB8.out.size _).alloc (le_al HB8.out.size) _).alloc (le_al (le_al HB8.out.size)) _ | exact HB8.out.drew | exact (HB8.out.alloc HB8.out.size _).drew | exact ((HB8.out.alloc HB8.out.size _).alloc (le_al HB8.out.size) _).drew | exact HB7.out | exact HB7.out.alloc HB7.out.size _ | exact (HB7.out.alloc HB7.out.size _).alloc (le_al HB7.out.size) _ | exact ((HB7.out.alloc HB7.out.size _).alloc (le_al HB7.out.size) _).alloc (le_al (le_al HB7.out.size)) _ | exact HB7.out.drew | exact (HB7.out.alloc HB7.out.size _).drew | exact ((HB7.out.alloc HB7.out.size _).alloc (le_al HB7.out.size) _).drew | exact HB6.out | exact HB6.out.alloc HB6.out.size _ | exact (HB6.out.alloc HB6.out.size _).alloc (le_al HB6.out.size) _ | exact ((HB6.out.alloc HB6.out.size _).alloc (le_al HB6.out.size) _).alloc (le_al (le_al HB6.out.size)) _ | exact HB6.out.drew | exact (HB6.out.alloc HB6.out.size _).drew | exact ((HB6.out.alloc HB6.out.size _).alloc (le_al HB6.out.size) _).drew | exact HB5.out | exact HB5.out.alloc HB5.out.size _ | exact (HB5.out.alloc HB5.out.size _).alloc (le_al HB5.out.size) _ | exact ((HB5.out.alloc HB5.out.size _).alloc (le_al HB5.out.size) _).alloc (le_al (le_al HB5.out.size)) _ | exact HB5.out.drew | exact (HB5.out.alloc HB5.out.size _).drew | exact ((HB5.out.alloc HB5.out.size _).alloc (le_al HB5.out.size) _).drew | exact HB4.out | exact HB4.out.alloc HB4.out.size _ | exact (HB4.out.alloc HB4.out.size _).alloc (le_al HB4.out.size) _ | exact ((HB4.out.alloc HB4.out.size _).alloc (le_al HB4.out.size) _).alloc (le_al (le_al HB4.out.size)) _ | exact HB4.out.drew | exact (HB4.out.alloc HB4.out.size _).drew | exact ((HB4.out.alloc HB4.out.size _).alloc (le_al HB4.out.size) _).drew | exact HB3.out | exact HB3.out.alloc HB3.out.size _ | exact (HB3.out.alloc HB3.out.size _).alloc (le_al HB3.out.size) _ | exact ((HB3.out.alloc HB3.out.size _).alloc (le_al HB3.out.size) _).alloc (le_al (le_al HB3.out.size)) _ | exact HB3.out.drew | exact (HB3.out.alloc HB3.out.size _).drew | exact ((HB3.out.alloc HB3.out.size _).alloc (le_al HB3.out.size) _).drew | exact HB2.out | exact HB2.out.alloc HB2.out.size _ | exact (HB2.out.alloc HB2.out.size _).alloc (le_al HB2.out.size) _ | exact ((HB2.out.alloc HB2.out.size _).alloc (le_al HB2.out.size) _).alloc (le_al (le_al HB2.out.size)) _ | exact HB2.out.drew | exact (HB2.out.alloc HB2.out.size _).drew | exact ((HB2.out.alloc HB2.out.size _).alloc (le_al HB2.out.size) _).drew | exact HB1.out | exact HB1.out.alloc HB1.out.size _ | exact (HB1.out.alloc HB1.out.size _).alloc (le_al HB1.out.size) _ | exact ((HB1.out.alloc HB1.out.size _).alloc (le_al HB1.out.size) _).alloc (le_al (le_al HB1.out.size)) _ | exact HB1.out.drew | exact (HB1.out.alloc HB1.out.size _).drew | exact ((HB1.out.alloc HB1.out.size _).alloc (le_al HB1.out.size) _).drew | exact HB0.out | exact HB0.out.alloc HB0.out.size _ | exact (HB0.out.alloc HB0.out.size _).alloc (le_al HB0.out.size) _ | exact ((HB0.out.alloc HB0.out.size _).alloc (le_al HB0.out.size) _).alloc (le_al (le_al HB0.out.size)) _ | exact HB0.out.drew | exact (HB0.out.alloc HB0.out.size _).drew | exact ((HB0.out.alloc HB0.out.size _).alloc (le_al HB0.out.size) _).drew) (hb9.mono (by (try simp only [size_drew]); (try simp only [World.size_alloc]); (try simp only [size_setCell']); omega)))
              have HN9 := Lib.hid hb9
              clear hb9 hs9
              go_wp2_with fail
              refine (HR6b.out.entries _ (((New.refl _).alloc _).below.trans (HN9.out.mono (by simp only [World.size_alloc]; omega)))).mono ?_
              rintro e w10 ⟨fa, fc, rfl, _, hb10⟩
              obtain ⟨hc10, hf10⟩ := bcell hb10
              have hs10 := hb10.size
              try simp only [size_drew] at hs10
              try simp only [World.size_alloc] at hs10
              try simp only [size_setCell'] at hs10
              try have le10_0 : W0.heap.size ≤ w10.heap.size := (by omega)
              try have lt10_0 : W0.heap.size < w10.heap.size := (by omega)
              try have le10_1 : w1.heap.size ≤ w10.heap.size := (by omega)
              try have lt10_1 : w1.heap.size < w10.heap.size := (by omega)
              try have le10_2 : w2.heap.size ≤ w10.heap.size := (by omega)
              try have lt10_2 : w2.heap.size < w10.heap.size := (by omega)
              try have le10_3 : w3.heap.size ≤ w10.heap.size := (by omega)
              try have lt10_3 : w3.heap.size < w10.heap.size := (by omega)
              try have le10_4 : w4.heap.size ≤ w10.heap.size := (by omega)
              try have lt10_4 : w4.heap.size < w10.heap.size := (by omega)
              try have le10_5 : w5.heap.size ≤ w10.heap.size := (by omega)
              try have lt10_5 : w5.heap.size < w10.heap.size := (by omega)
              try have le10_6 : w6.heap.size ≤ w10.heap.size := (by omega)
              try have lt10_6 : w6.heap.size < w10.heap.size := (by omega)
              try have le10_7 : w7.heap.size ≤ w10.heap.size := (by omega)
              try have lt10_7 : w7.heap.size < w10.heap.size := (by omega)
              try have le10_8 : w8.heap.size ≤ w10.heap.size := (by omega)
              try have lt10_8 : w8.heap.size < w10.heap.size := (by omega)
              try have le10_9 : w9.heap.size ≤ w10.heap.size := (by omega)
              try have lt10_9 : w9.heap.size < w10.heap.size := (by omega)
              have HB10 : Hid (Below W0.heap.size W0 w10) := Lib.hid (Below.trans (by first | exact HB9.out | exact HB9.out.alloc HB9.out.size _ | exact (HB9.out.alloc HB9.out.size _).alloc (le_al HB9.out.size) _ | exact ((HB9.out.alloc HB9.out.size _).alloc (le_al HB9.out.size) _).alloc (le_al (le_al HB9.out.size)) _ | exact HB9.out.drew | exact (HB9.out.alloc HB9.out.size _).drew | exact ((HB9.out.alloc HB9.out.size _).alloc (le_al HB9.out.size) _).drew | exact HB8.out | exact HB8.out.alloc HB8.out.size _ | exact (HB8.out.alloc HB8.out.size _).alloc (le_al HB8.out.size) _ | exact ((HB8.out.alloc HB8.out.size _).alloc (le_al HB8.out.size) _).alloc (le_al (le_al HB8.out.size)) _ | exact HB8.out.drew | exact (HB8.out.alloc HB8.out.size _).drew | exact ((HB8.out.alloc HB8.out.size _).alloc (le_al HB8.out.size) _).drew | exact HB7.out | exact HB7.out.alloc HB7.out.size _ | exact (HB7.out.alloc HB7.out.size _).alloc (le_al HB7.out.size) _ | exact ((HB7.out.alloc HB7.out.size _).alloc (le_al HB7.out.size) _).alloc (le_al (le_al HB7.out.size)) _ | exact HB7.out.drew | exact (HB7.out.alloc HB7.out.size _).drew | exact ((HB7.out.alloc HB7.out.size _).alloc (le_al HB7.out.size) _).drew | exact HB6.out | exact HB6.out.alloc HB6.out.size _ | exact (HB6.out.alloc HB6.out.size _).alloc (le_al HB6.out.size) _ | exact ((HB6.out.alloc HB6.out.size _).alloc (le_al HB6.out.size) _).alloc (le_al (le_al HB6.out.size)) _ | exact HB6.out.drew | exact (HB6.out.alloc HB6.out.size _).drew | exact ((HB6.out.alloc HB6.out.size _).alloc (le_al HB6.out.size) _).drew | exact HB5.out | exact HB5.out.alloc HB5.out.size _ | exact (HB5.out.alloc HB5.out.size _).alloc (le_al HB5.out.size) _ | exact ((HB5.out.alloc HB5.out.size _).alloc (le_al HB5.out.size) _).alloc (le_al (le_al HB5.out.size)) _ | exact HB5.out.drew | exact (HB5.out.alloc HB5.out.size _).drew | exact ((HB5.out.alloc HB5.out.size _).alloc (le_al HB5.out.size) _).drew | exact HB4.out | exact HB4.out.alloc HB4.out.size _ | exact (HB4.out.alloc HB4.out.size _).alloc (le_al HB4.out.size) _ | exact ((HB4.out.alloc HB4.out.size _).alloc (le_al HB4.out.size) _).alloc (le_al (le_al HB4.out.size)) _ | exact HB4.out.drew | exact (HB4.out.alloc HB4.out.size _).drew | exact ((HB4.out.alloc HB4.out.size _).alloc (le_al HB4.out.size) _).drew | exact HB3.out | exact HB3.out.alloc HB3.out.size _ | exact (HB3.out.alloc HB3.out.size _).alloc (le_al HB3.out.size) _ | exact ((HB3.out.alloc HB3.out.size _).alloc (le_al HB3.out.size) _).alloc (le_al (le_al HB3.out.size)) _ | exact HB3.out.drew | exact (HB3.out.alloc HB3.out.size _).drew | exact ((HB3.out.alloc HB3.out.size _).alloc (le_al HB3.out.size) _).drew | exact HB2.out | exact HB2.out.alloc HB2.out.size _ | exact (HB2.out.alloc HB2.out.size _).alloc (le_al HB2.out.size) _ | exact ((HB2.out.alloc HB2.out.size _).alloc (le_al HB2.out.size) _).alloc (le_al (le_al HB2.out.size)) _ | exact HB2.out.drew | exact (HB2.out.alloc HB2.out.size _).drew | exact ((HB2.out.alloc HB2.out.size _).alloc (le_al HB2.out.size) _).drew | exact HB1.out | exact HB1.out.alloc HB1.out.size _ | exact (HB1.out.alloc HB1.out.size _).alloc (le_al HB1.out.size) _ | exact ((HB1.out.alloc HB1.out.size _).alloc (le_al HB1.out.size) _).alloc (le_al (le_al HB1.out.size)) _ | exact HB1.out.drew | exact (HB1.out.alloc HB1.out.size _).drew | exact ((HB1.out.alloc HB1.out.size _).alloc (le_al HB1.out.size) _).drew) (hb10.mono (by (try simp only [size_drew]); (try simp only [World.size_alloc]); (try simp only [size_setCell']); omega)))
              have HN10 := Lib.hid hb10
              clear hb10 hs10
              go_wp2_with fail
              refine (HR7a.out.inodes _ ((((New.refl _).alloc _).below.trans (HN9.out.mono (by simp only [World.size_alloc]; omega))).trans (HN10.out.mono (by have := HN9.out.size; simp only [World.size_alloc] at this; omega)))).mono ?_
              rintro e w11 ⟨ga, gc, rfl, _, hb11⟩
              obtain ⟨hc11, hf11⟩ := bcell hb11
              have hs11 := hb11.size
              try simp only [size_drew] at hs11
              try simp only [World.size_alloc] at hs11
              try simp only [size_setCell'] at hs11
              try have le11_0 : W0.heap.size ≤ w11.heap.size := (by omega)
              try have lt11_0 : W0.heap.size < w11.heap.size := (by omega)
              try have le11_1 : w1.heap.size ≤ w11.heap.size := (by omega)
              try have lt11_1 : w1.heap.size < w11.heap.size := (by omega)
              try have le11_2 : w2.heap.size ≤ w11.heap.size := (by omega)
              try have lt11_2 : w2.heap.size < w11.heap.size := (by omega)
              try have le11_3 : w3.heap.size ≤ w11.heap.size := (by omega)
              try have lt11_3 : w3.heap.size < w11.heap.size := (by omega)
              try have le11_4 : w4.heap.size ≤ w11.heap.size := (by omega)
              try have lt11_4 : w4.heap.size < w11.heap.size := (by omega)
              try have le11_5 : w5.heap.size ≤ w11.heap.size := (by omega)
              try have lt11_5 : w5.heap.size < w11.heap.size := (by omega)
              try have le11_6 : w6.heap.size ≤ w11.heap.size := (by omega)
              try have lt11_6 : w6.heap.size < w11.heap.size := (by omega)
              try have le11_7 : w7.heap.size ≤ w11.heap.size := (by omega)
              try have lt11_7 : w7.heap.size < w11.heap.size := (by omega)
              try have le11_8 : w8.heap.size ≤ w11.heap.size := (by omega)
              try have lt11_8 : w8.heap.size < w11.heap.size := (by omega)
              try have le11_9 : w9.heap.size ≤ w11.heap.size := (by omega)
              try have lt11_9 : w9.heap.size < w11.heap.size := (by omega)
              try have le11_10 : w10.heap.size ≤ w11.heap.size := (by omega)
              try have lt11_10 : w10.heap.size < w11.heap.size := (by omega)
              have HB11 : Hid (Below W0.heap.size W0 w11) := Lib.hid (Below.trans (by first | exact HB10.out | exact HB10.out.alloc HB10.out.size _ | exact (HB10.out.alloc HB10.out.size _).alloc (le_al HB10.out.size) _ | exact ((HB10.out.alloc HB10.out.size _).alloc (le_al HB10.out.size) _).alloc (le_al (le_al HB10.out.size)) _ | exact HB10.out.drew | exact (HB10.out.alloc HB10.out.size _).drew | exact ((HB10.out.alloc HB10.out.size _).alloc (le_al HB10.out.size) _).drew | exact HB9.out | exact HB9.out.alloc HB9.out.size _ | exact (HB9.out.alloc HB9.out.size _).alloc (le_al HB9.out.size) _ | exact ((HB9.out.alloc HB9.out.size _).alloc (le_al HB9.out.size) _).alloc (le_al (le_al HB9.out.size)) _ | exact HB9.out.drew | exact (HB9.out.alloc HB9.out.size _).drew | exact ((HB9.out.alloc HB9.out.size _).alloc (le_al HB9.out.size) _).drew | exact HB8.out | exact HB8.out.alloc HB8.out.size _ | exact (HB8.out.alloc HB8.out.size _).alloc (le_al HB8.out.size) _ | exact ((HB8.out.alloc HB8.out.size _).alloc (le_al HB8.out.size) _).alloc (le_al (le_al HB8.out.size)) _ | exact HB8.out.drew | exact (HB8.out.alloc HB8.out.size _).drew | exact ((HB8.out.alloc HB8.out.size _).alloc (le_al HB8.out.size) _).drew | exact HB7.out | exact HB7.out.alloc HB7.out.size _ | exact (HB7.out.alloc HB7.out.size _).alloc (le_al HB7.out.size) _ | exact ((HB7.out.alloc HB7.out.size _).alloc (le_al HB7.out.size) _).alloc (le_al (le_al HB7.out.size)) _ | exact HB7.out.drew | exact (HB7.out.alloc HB7.out.size _).drew | exact ((HB7.out.alloc HB7.out.size _).alloc (le_al HB7.out.size) _).drew | exact HB6.out | exact HB6.out.alloc HB6.out.size _ | exact (HB6.out.alloc HB6.out.size _).alloc (le_al HB6.out.size) _ | exact ((HB6.out.alloc HB6.out.size _).alloc (le_al HB6.out.size) _).alloc (le_al (le_al HB6.out.size)) _ | exact HB6.out.drew | exact (HB6.out.alloc HB6.out.size _).drew | exact ((HB6.out.alloc HB6.out.size _).alloc (le_al HB6.out.size) _).drew | exact HB5.out | exact HB5.out.alloc HB5.out.size _ | exact (HB5.out.alloc HB5.out.size _).alloc (le_al HB5.out.size) _ | exact ((HB5.out.alloc HB5.out.size _).alloc (le_al HB5.out.size) _).alloc (le_al (le_al HB5.out.size)) _ | exact HB5.out.drew | exact (HB5.out.alloc HB5.out.size _).drew | exact ((HB5.out.alloc HB5.out.size _).alloc (le_al HB5.out.size) _).drew | exact HB4.out | exact HB4.out.alloc HB4.out.size _ | exact (HB4.out.alloc HB4.out.size _).alloc (le_al HB4.out.size) _ | exact ((HB4.out.alloc HB4.out.size _).alloc (le_al HB4.out.size) _).alloc (le_al (le_al HB4.out.size)) _ | exact HB4.out.drew | exact (HB4.out.alloc HB4.out.size _).drew | exact ((HB4.out.alloc HB4.out.size _).alloc (le_al HB4.out.size) _).drew | exact HB3.out | exact HB3.out.alloc HB3.out.size _ | exact (HB3.out.alloc HB3.out.size _).alloc (le_al HB3.out.size) _ | exact ((HB3.out.alloc HB3.out.size _).alloc (le_al HB3.out.size) _).alloc (le_al (le_al HB3.out.size)) _ | exact HB3.out.drew | exact (HB3.out.alloc HB3.out.size _).drew | exact ((HB3.out.alloc HB3.out.size _).alloc (le_al HB3.out.size) _).drew | exact HB2.out | exact HB2.out.alloc HB2.out.size _ | exact (HB2.out.alloc HB2.out.size _).alloc (le_al HB2.out.size) _ | exact ((HB2.out.alloc HB2.out.size _).alloc (le_al HB2.out.size) _).alloc (le_al (le_al HB2.out.size)) _ | exact HB2.out.drew | exact (HB2.out.alloc HB2.out.size _).drew | exact ((HB2.out.alloc HB2.out.size _).alloc (le_al HB2.out.size) _).drew) (hb11.mono (by (try simp only [size_drew]); (try simp only [World.size_alloc]); (try simp only [size_setCell']); omega)))
              have HN11 := Lib.hid hb11
              clear hb11 hs11
              go_wp2_with fail
              refine (HR6b.out.inodes _ (((((New.refl _).alloc _).below.trans (HN9.out.mono (by simp only [World.size_alloc]; omega))).trans (HN10.out.mono (by have := HN9.out.size; simp only [World.size_alloc] at this; omega))).trans (HN11.out.mono (by have := HN9.out.size; have := HN10.out.size; simp only [World.size_alloc] at *; omega)))).mono ?_
              rintro e w12 ⟨ia, ic, rfl, _, hb12⟩
              obtain ⟨hc12, hf12⟩ := bcell hb12
              have hs12 := hb12.size
              try simp only [size_drew] at hs12
              try simp only [World.size_alloc] at hs12
              try simp only [size_setCell'] at hs12
              try have le12_0 : W0.heap.size ≤ w12.heap.size := (by omega)
              try have lt12_0 : W0.heap.size < w12.heap.size := (by omega)
              try have le12_1 : w1.heap.size ≤ w12.heap.size := (by omega)
              try have lt12_1 : w1.heap.size < w12.heap.size := (by omega)
              try have le12_2 : w2.heap.size ≤ w12.heap.size := (by omega)
              try have lt12_2 : w2.heap.size < w12.heap.size := (by omega)
              try have le12_3 : w3.heap.size ≤ w12.heap.size := (by omega)
              try have lt12_3 : w3.heap.size < w12.heap.size := (by omega)
              try have le12_4 : w4.heap.size ≤ w12.heap.size := (by omega)
              try have lt12_4 : w4.heap.size < w12.heap.size := (by omega)
              try have le12_5 : w5.heap.size ≤ w12.heap.size := (by omega)
              try have lt12_5 : w5.heap.size < w12.heap.size := (by omega)
              try have le12_6 : w6.heap.size ≤ w12.heap.size := (by omega)
              try have lt12_6 : w6.heap.size < w12.heap.size := (by omega)
              try have le12_7 : w7.heap.size ≤ w12.heap.size := (by omega)
              try have lt12_7 : w7.heap.size < w12.heap.size := (by omega)
              try have le12_8 : w8.heap.size ≤ w12.heap.size := (by omega)
              try have lt12_8 : w8.heap.size < w12.heap.size := (by omega)
              try have le12_9 : w9.heap.size ≤ w12.heap.size := (by omega)
              try have lt12_9 : w9.heap.size < w12.heap.size := (by omega)
              try have le12_10 : w10.heap.size ≤ w12.heap.size := (by omega)
              try have lt12_10 : w10.heap.size < w12.heap.size := (by omega)
              try have le12_11 : w11.heap.size ≤ w12.heap.size := (by omega)
              try have lt12_11 : w11.heap.size < w12.heap.size := (by omega)
              have HB12 : Hid (Below W0.heap.size W0 w12) := Lib.hid (Below.trans (by first | exact HB11.out | exact HB11.out.alloc HB11.out.size _ | exact (HB11.out.alloc HB11.out.size _).alloc (le_al HB11.out.size) _ | exact ((HB11.out.alloc HB11.out.size _).alloc (le_al HB11.out.size) _).alloc (le_al (le_al HB11.out.size)) _ | exact HB11.out.drew | exact (HB11.out.alloc HB11.out.size _).drew | exact ((HB11.out.alloc HB11.out.size _).alloc (le_al HB11.out.size) _).drew | exact HB10.out | exact HB10.out.alloc HB10.out.size _ | exact (HB10.out.alloc HB10.out.size _).alloc (le_al HB10.out.size) _ | exact ((HB10.out.alloc HB10.out.size _).alloc (le_al HB10.out.size) _).alloc (le_al (le_al HB10.out.size)) _ | exact HB10.out.drew | exact (HB10.out.alloc HB10.out.size _).drew | exact ((HB10.out.alloc HB10.out.size _).alloc (le_al HB10.out.size) _).drew | exact HB9.out | exact HB9.out.alloc HB9.out.size _ | exact (HB9.out.alloc HB9.out.size _).alloc (le_al HB9.out.size) _ | exact ((HB9.out.alloc HB9.out.size _).alloc (le_al HB9.out.size) _).alloc (le_al (le_al HB9.out.size)) _ | exact HB9.out.drew | exact (HB9.out.alloc HB9.out.size _).drew | exact ((HB9.out.alloc HB9.out.size _).alloc (le_al HB9.out.size) _).drew | exact HB8.out | exact HB8.out.alloc HB8.out.size _ | exact (HB8.out.alloc HB8.out.size _).alloc (le_al HB8.out.size) _ | exact ((HB8.out.alloc HB8.out.size _).alloc (le_al HB8.out.size) _).alloc (le_al (le_al HB8.out.size)) _ | exact HB8.out.drew | exact (HB8.out.alloc HB8.out.size _).drew | exact ((HB8.out.alloc HB8.out.size _).alloc (le_al HB8.out.size) _).drew | exact HB7.out | exact HB7.out.alloc HB7.out.size _ | exact (HB7.out.alloc HB7.out.size _).alloc (le_al HB7.out.size) _ | exact ((HB7.out.alloc HB7.out.size _).alloc (le_al HB7.out.size) _).alloc (le_al (le_al HB7.out.size)) _ | exact HB7.out.drew | exact (HB7.out.alloc HB7.out.size _).drew | exact ((HB7.out.alloc HB7.out.size _).alloc (le_al HB7.out.size) _).drew | exact HB6.out | exact HB6.out.alloc HB6.out.size _ | exact (HB6.out.alloc HB6.out.size _).alloc (le_al HB6.out.size) _ | exact ((HB6.out.alloc HB6.out.size _).alloc (le_al HB6.out.size) _).alloc (le_al (le_al HB6.out.size)) _ | exact HB6.out.drew | exact (HB6.out.alloc HB6.out.size _).drew | exact ((HB6.out.alloc HB6.out.size _).alloc (le_al HB6.out.size) _).drew | exact HB5.out | exact HB5.out.alloc HB5.out.size _ | exact (HB5.out.alloc HB5.out.size _).alloc (le_al HB5.out.size) _ | exact ((HB5.out.alloc HB5.out.size _).alloc (le_al HB5.out.size) _).alloc (le_al (le_al HB5.out.size)) _ | exact HB5.out.drew | exact (HB5.out.alloc HB5.out.size _).drew | exact ((HB5.out.alloc HB5.out.size _).alloc (le_al HB5.out.size) _).drew | exact HB4.out | exact HB4.out.alloc HB4.out.size _ | exact (HB4.out.alloc HB4.out.size _).alloc (le_al HB4.out.size) _ | exact ((HB4.out.alloc HB4.out.size _).alloc (le_al HB4.out.size) _).alloc (le_al (le_al HB4.out.size)) _ | exact HB4.out.drew | exact (HB4.out.alloc HB4.out.size _).drew | exact ((HB4.out.alloc HB4.out.size _).alloc (le_al HB4.out.size) _).drew | exact HB3.out | exact HB3.out.alloc HB3.out.size _ | exact (HB3.out.alloc HB3.out.size _).alloc (le_al HB3.out.size) _ | exact ((HB3.out.alloc HB3.out.size _).alloc (le_al HB3.out.size) _).alloc (le_al (le_al HB3.out.size)) _ | exact HB3.out.drew | exact (HB3.out.alloc HB3.out.size _).drew | exact ((HB3.out.alloc HB3.out.size _).alloc (le_al HB3.out.size) _).drew) (hb12.mono (by (try simp only [size_drew]); (try simp only [World.size_alloc]); (try simp only [size_setCell']); omega)))
              have HN12 := Lib.hid hb12
              clear hb12 hs12
              go_wp2
              go_ret
              exact ⟨by first | rfl | simp [*], HW.out.1.trans ((show Below W0.heap.size W0 _ from (by first | exact HB12.out | exact HB12.out.alloc HB12.out.size _ | exact (HB12.out.alloc HB12.out.size _).alloc (le_al HB12.out.size) _ | exact ((HB12.out.alloc HB12.out.size _).alloc (le_al HB12.out.size) _).alloc (le_al (le_al HB12.out.size)) _ | exact HB12.out.drew | exact (HB12.out.alloc HB12.out.size _).drew | exact ((HB12.out.alloc HB12.out.size _).alloc (le_al HB12.out.size) _).drew)).mono HW.out.1.size)⟩
      · have hxb : (x.kind != 8) = true := by simpa using hx
        clear ho hx
        go_enter Tryz.func9, Tryz.ntmps9
        go_wp2_with fail
        rw [← hW0]
        clear hW0
        obtain ⟨⟨_, _, _, _, _, _, _, _, _, _, _, _, _⟩, ⟨_, _, _, _, _, _, _, _, _, _, _, _, _⟩⟩ := HJ.out W0 HB0.out
        go_wp2_with fail
        refine (shown_any _).mono ?_
        rintro e w1 ⟨rfl, hb1⟩
        obtain ⟨hc1, hf1⟩ := bcell hb1
        have hs1 := hb1.size
        try simp only [size_drew] at hs1
        try simp only [World.size_alloc] at hs1
        try simp only [size_setCell'] at hs1
        try have le1_0 : W0.heap.size ≤ w1.heap.size := (by omega)
        try have lt1_0 : W0.heap.size < w1.heap.size := (by omega)
        have HB1 : Hid (Below W0.heap.size W0 w1) := Lib.hid (Below.trans (by first | exact HB0.out | exact HB0.out.alloc HB0.out.size _ | exact (HB0.out.alloc HB0.out.size _).alloc (le_al HB0.out.size) _ | exact ((HB0.out.alloc HB0.out.size _).alloc (le_al HB0.out.size) _).alloc (le_al (le_al HB0.out.size)) _ | exact HB0.out.drew | exact (HB0.out.alloc HB0.out.size _).drew | exact ((HB0.out.alloc HB0.out.size _).alloc (le_al HB0.out.size) _).drew) (hb1.mono (by (try simp only [size_drew]); (try simp only [World.size_alloc]); (try simp only [size_setCell']); omega)))
        have HN1 := Lib.hid hb1
        clear hb1 hs1
        obtain ⟨⟨_, _, _, _, _, _, _, _, _, _, _, _, _⟩, ⟨_, _, _, _, _, _, _, _, _, _, _, _, _⟩⟩ := HJ.out _ HB1.out
        go_wp2_with (go_at_call 35; refine (HF1.out _ HB1.out).mono ?_; rintro y w' ⟨rfl, rfl⟩)
        go_wp2
        go_ret
        exact ⟨rfl, HW.out.1.trans ((show Below W0.heap.size W0 _ from (by first | exact HB1.out | exact HB1.out.alloc HB1.out.size _ | exact (HB1.out.alloc HB1.out.size _).alloc (le_al HB1.out.size) _ | exact ((HB1.out.alloc HB1.out.size _).alloc (le_al HB1.out.size) _).alloc (le_al (le_al HB1.out.size)) _ | exact HB1.out.drew | exact (HB1.out.alloc HB1.out.size _).drew | exact ((HB1.out.alloc HB1.out.size _).alloc (le_al HB1.out.size) _).drew)).mono HW.out.1.size)⟩
    · have hob : (o.kind != 10) = true := by simpa using ho
      clear ho
      go_enter Tryz.func9, Tryz.ntmps9
      go_wp2_with fail
      rw [← hW0]
      clear hW0
      obtain ⟨⟨_, _, _, _, _, _, _, _, _, _, _, _, _⟩, ⟨_, _, _, _, _, _, _, _, _, _, _, _, _⟩⟩ := HJ.out W0 HB0.out
      go_wp2_with fail
      refine (shown_any _).mono ?_
      rintro e w1 ⟨rfl, hb1⟩
      obtain ⟨hc1, hf1⟩ := bcell hb1
      have hs1 := hb1.size
      try simp only [size_drew] at hs1
      try simp only [World.size_alloc] at hs1
      try simp only [size_setCell'] at hs1
      try have le1_0 : W0.heap.size ≤ w1.heap.size := (by omega)
      try have lt1_0 : W0.heap.size < w1.heap.size := (by omega)
      have HB1 : Hid (Below W0.heap.size W0 w1) := Lib.hid (Below.trans (by first | exact HB0.out | exact HB0.out.alloc HB0.out.size _ | exact (HB0.out.alloc HB0.out.size _).alloc (le_al HB0.out.size) _ | exact ((HB0.out.alloc HB0.out.size _).alloc (le_al HB0.out.size) _).alloc (le_al (le_al HB0.out.size)) _ | exact HB0.out.drew | exact (HB0.out.alloc HB0.out.size _).drew | exact ((HB0.out.alloc HB0.out.size _).alloc (le_al HB0.out.size) _).drew) (hb1.mono (by (try simp only [size_drew]); (try simp only [World.size_alloc]); (try simp only [size_setCell']); omega)))
      have HN1 := Lib.hid hb1
      clear hb1 hs1
      obtain ⟨⟨_, _, _, _, _, _, _, _, _, _, _, _, _⟩, ⟨_, _, _, _, _, _, _, _, _, _, _, _, _⟩⟩ := HJ.out _ HB1.out
      go_wp2_with (go_at_call 35; refine (HF1.out _ HB1.out).mono ?_; rintro y w' ⟨rfl, rfl⟩)
      go_wp2
      go_ret
      exact ⟨rfl, HW.out.1.trans ((show Below W0.heap.size W0 _ from (by first | exact HB1.out | exact HB1.out.alloc HB1.out.size _ | exact (HB1.out.alloc HB1.out.size _).alloc (le_al HB1.out.size) _ | exact ((HB1.out.alloc HB1.out.size _).alloc (le_al HB1.out.size) _).alloc (le_al (le_al HB1.out.size)) _ | exact HB1.out.drew | exact (HB1.out.alloc HB1.out.size _).drew | exact ((HB1.out.alloc HB1.out.size _).alloc (le_al HB1.out.size) _).drew)).mono HW.out.1.size)⟩
end Go.Proofs.YtlokljaeknmdpaaGreat.L13
