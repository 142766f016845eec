/-
  The graph's deeds at a graph that is nil; no condition.
-/
import Derived.Test.YtmnkaohhjhjciaaGrCopy
namespace Go.Proofs.Ytmnkaohhjhjciaa
open Go.RowKit Go.Shelf Go.Proofs

set_option maxRecDepth 100000 in
set_option maxHeartbeats 400000 in
theorem drop_nil (id : St) (w : World) : Calls Try.prog 40 #[.pointer none, id.v] w fun e w' => e = .returned (.int .i64 3) ∧ Below w.heap.size w w' := by
  have HB0 : Hid (Below w.heap.size w (w.alloc (.cells #[.int .i64 id.t, .int .i64 id.r] 29))) := Lib.hid ((Below.refl _ w).alloc (Nat.le_refl _) _)
  have HG : Hid (∀ W, Calls Try.prog 23 #[.pointer none, (.agg #[.int .i64 id.t, .int .i64 id.r])] W fun x w' => x = .returned (.tuple #[(.agg #[.int .i64 0, .int .i64 0, .int .i64 0, .int .i64 0, .int .i64 0, .string ⟨#[]⟩]), .bool false]) ∧ Below W.heap.size W w') := Lib.hid fun W => (get_nil id W).mono fun e w' ⟨a, b⟩ => ⟨a, b.below⟩
  unfold St.v
  go_enter Try.func40, Try.ntmps40
  go_wp2_with fail
  refine (HG.out _).mono ?_
  rintro e w1 ⟨rfl, hb1⟩
  obtain ⟨hc1, hf1⟩ := bcell hb1
  have hs1 := hb1.size
  try simp only [World.size_alloc] at hs1
  try simp only [size_setCell'] at hs1
  try have le1_0 : w.heap.size ≤ w1.heap.size := (by omega)
  try have lt1_0 : w.heap.size < w1.heap.size := (by omega)
  have HB1 : Hid (Below w.heap.size w w1) := Lib.hid (Below.trans (by first | exact HB0.out | exact HB0.out.alloc HB0.out.size _ | exact (HB0.out.alloc HB0.out.size _).alloc (le_al HB0.out.size) _ | exact ((HB0.out.alloc HB0.out.size _).alloc (le_al HB0.out.size) _).alloc (le_al (le_al HB0.out.size)) _) (hb1.mono (by (try simp only [World.size_alloc]); (try simp only [size_setCell']); omega)))
  have HN1 := Lib.hid hb1
  clear hb1 hs1
  go_wp2
  go_ret
  exact ⟨rfl, (by first | exact HB1.out | exact HB1.out.alloc HB1.out.size _ | exact (HB1.out.alloc HB1.out.size _).alloc (le_al HB1.out.size) _ | exact ((HB1.out.alloc HB1.out.size _).alloc (le_al HB1.out.size) _).alloc (le_al (le_al HB1.out.size)) _)⟩

set_option maxRecDepth 100000 in
set_option maxHeartbeats 400000 in
theorem set_nil (id : St) (mode : Int) (data : ByteArray) (w : World) : Calls Try.prog 41 #[.pointer none, id.v, .int .i64 mode, .string data] w fun e w' => e = .returned (.int .i64 3) ∧ Below w.heap.size w w' := by
  have HB0 : Hid (Below w.heap.size w (w.alloc (.cells #[.int .i64 id.t, .int .i64 id.r] 29))) := Lib.hid ((Below.refl _ w).alloc (Nat.le_refl _) _)
  have HG : Hid (∀ W, Calls Try.prog 23 #[.pointer none, (.agg #[.int .i64 id.t, .int .i64 id.r])] W fun x w' => x = .returned (.tuple #[(.agg #[.int .i64 0, .int .i64 0, .int .i64 0, .int .i64 0, .int .i64 0, .string ⟨#[]⟩]), .bool false]) ∧ Below W.heap.size W w') := Lib.hid fun W => (get_nil id W).mono fun e w' ⟨a, b⟩ => ⟨a, b.below⟩
  unfold St.v
  go_enter Try.func41, Try.ntmps41
  go_wp2_with fail
  refine (HG.out _).mono ?_
  rintro e w1 ⟨rfl, hb1⟩
  obtain ⟨hc1, hf1⟩ := bcell hb1
  have hs1 := hb1.size
  try simp only [World.size_alloc] at hs1
  try simp only [size_setCell'] at hs1
  try have le1_0 : w.heap.size ≤ w1.heap.size := (by omega)
  try have lt1_0 : w.heap.size < w1.heap.size := (by omega)
  have HB1 : Hid (Below w.heap.size w w1) := Lib.hid (Below.trans (by first | exact HB0.out | exact HB0.out.alloc HB0.out.size _ | exact (HB0.out.alloc HB0.out.size _).alloc (le_al HB0.out.size) _ | exact ((HB0.out.alloc HB0.out.size _).alloc (le_al HB0.out.size) _).alloc (le_al (le_al HB0.out.size)) _) (hb1.mono (by (try simp only [World.size_alloc]); (try simp only [size_setCell']); omega)))
  have HN1 := Lib.hid hb1
  clear hb1 hs1
  go_wp2
  go_ret
  exact ⟨rfl, (by first | exact HB1.out | exact HB1.out.alloc HB1.out.size _ | exact (HB1.out.alloc HB1.out.size _).alloc (le_al HB1.out.size) _ | exact ((HB1.out.alloc HB1.out.size _).alloc (le_al HB1.out.size) _).alloc (le_al (le_al HB1.out.size)) _)⟩

set_option maxRecDepth 100000 in
set_option maxHeartbeats 400000 in
theorem make_nil (id : St) (kind : Int) (w : World) (hm : mayB id.t id.r = true) (h1 : 1 ≤ kind) (h3 : kind ≤ 3) : Calls Try.prog 42 #[.pointer none, id.v, .int .i64 kind] w fun e w' => e = .returned (.int .i64 3) ∧ Below w.heap.size w w' := by
  have HB0 : Hid (Below w.heap.size w (w.alloc (.cells #[.int .i64 id.t, .int .i64 id.r] 29))) := Lib.hid ((Below.refl _ w).alloc (Nat.le_refl _) _)
  have HG : Hid (∀ W, Calls Try.prog 23 #[.pointer none, (.agg #[.int .i64 id.t, .int .i64 id.r])] W fun x w' => x = .returned (.tuple #[(.agg #[.int .i64 0, .int .i64 0, .int .i64 0, .int .i64 0, .int .i64 0, .string ⟨#[]⟩]), .bool false]) ∧ Below W.heap.size W w') := Lib.hid fun W => (get_nil id W).mono fun e w' ⟨a, b⟩ => ⟨a, b.below⟩
  have HM : Hid (∀ W, Calls Try.prog 70 #[(.agg #[.int .i64 id.t, .int .i64 id.r])] W fun e w' => e = .returned (.bool true) ∧ Below W.heap.size W w') := Lib.hid fun W => (may_any id.t id.r W).mono fun e w' ⟨a, b⟩ => ⟨by rw [← hm]; exact a, b.below⟩
  clear hm
  unfold St.v
  go_enter Try.func42, Try.ntmps42
  go_wp2_with fail
  refine (HG.out _).mono ?_
  rintro e w1 ⟨rfl, hb1⟩
  obtain ⟨hc1, hf1⟩ := bcell hb1
  have hs1 := hb1.size
  try simp only [World.size_alloc] at hs1
  try simp only [size_setCell'] at hs1
  try have le1_0 : w.heap.size ≤ w1.heap.size := (by omega)
  try have lt1_0 : w.heap.size < w1.heap.size := (by omega)
  have HB1 : Hid (Below w.heap.size w w1) := Lib.hid (Below.trans (by first | exact HB0.out | exact HB0.out.alloc HB0.out.size _ | exact (HB0.out.alloc HB0.out.size _).alloc (le_al HB0.out.size) _ | exact ((HB0.out.alloc HB0.out.size _).alloc (le_al HB0.out.size) _).alloc (le_al (le_al HB0.out.size)) _) (hb1.mono (by (try simp only [World.size_alloc]); (try simp only [size_setCell']); omega)))
  have HN1 := Lib.hid hb1
  clear hb1 hs1
  go_wp2_with fail
  refine (HM.out _).mono ?_
  rintro e w2 ⟨rfl, hb2⟩
  obtain ⟨hc2, hf2⟩ := bcell hb2
  have hs2 := hb2.size
  try simp only [World.size_alloc] at hs2
  try simp only [size_setCell'] at hs2
  try have le2_0 : w.heap.size ≤ w2.heap.size := (by omega)
  try have lt2_0 : w.heap.size < w2.heap.size := (by omega)
  try have le2_1 : w1.heap.size ≤ w2.heap.size := (by omega)
  try have lt2_1 : w1.heap.size < w2.heap.size := (by omega)
  have HB2 : Hid (Below w.heap.size w w2) := Lib.hid (Below.trans (by first | exact HB1.out | exact HB1.out.alloc HB1.out.size _ | exact (HB1.out.alloc HB1.out.size _).alloc (le_al HB1.out.size) _ | exact ((HB1.out.alloc HB1.out.size _).alloc (le_al HB1.out.size) _).alloc (le_al (le_al HB1.out.size)) _ | exact HB0.out | exact HB0.out.alloc HB0.out.size _ | exact (HB0.out.alloc HB0.out.size _).alloc (le_al HB0.out.size) _ | exact ((HB0.out.alloc HB0.out.size _).alloc (le_al HB0.out.size) _).alloc (le_al (le_al HB0.out.size)) _) (hb2.mono (by (try simp only [World.size_alloc]); (try simp only [size_setCell']); omega)))
  have HN2 := Lib.hid hb2
  clear hb2 hs2
  go_wp2
  go_ret
  exact ⟨rfl, (by first | exact HB2.out | exact HB2.out.alloc HB2.out.size _ | exact (HB2.out.alloc HB2.out.size _).alloc (le_al HB2.out.size) _ | exact ((HB2.out.alloc HB2.out.size _).alloc (le_al HB2.out.size) _).alloc (le_al (le_al HB2.out.size)) _)⟩

set_option maxRecDepth 100000 in
set_option maxHeartbeats 1000000 in
theorem tie_nil (x : Ent) (w : World) (hx : x.name.size ≤ maxLen) (hn : nameOk x.name = true) : Calls Try.prog 38 #[.pointer none, x.v] w fun e w' => e = .returned (.int .i64 3) ∧ Below w.heap.size w w' := by
  have ht : ∀ W, Calls Try.prog 68 #[.pointer none, x.v] W fun e w' => e = .returned (.int .i64 3) ∧ Below W.heap.size W w' := by
    intro w
    have HB0 : Hid (Below w.heap.size w (w.alloc (.cells #[.int .i64 x.at_.t, .int .i64 x.at_.r, .string x.name, .int .i64 x.ino.t, .int .i64 x.ino.r] 33))) := Lib.hid ((Below.refl _ w).alloc (Nat.le_refl _) _)
    have HG : Hid (∀ (id : St) W, Calls Try.prog 23 #[.pointer none, (.agg #[.int .i64 id.t, .int .i64 id.r])] W fun x w' => x = .returned (.tuple #[(.agg #[.int .i64 0, .int .i64 0, .int .i64 0, .int .i64 0, .int .i64 0, .string ⟨#[]⟩]), .bool false]) ∧ Below W.heap.size W w') := Lib.hid fun id W => (get_nil id W).mono fun e w' ⟨a, b⟩ => ⟨a, b.below⟩
    have HL : Hid (∀ W, Calls Try.prog 25 #[.pointer none, (.agg #[.int .i64 x.at_.t, .int .i64 x.at_.r]), .string x.name] W fun e w' => e = .returned (.tuple #[(.agg #[.int .i64 0, .int .i64 0]), .bool false]) ∧ Below W.heap.size W w') := Lib.hid fun W => (look_nil x.pl W).mono fun e w' ⟨a, b⟩ => ⟨a, b.below⟩
    have HN : Hid (∀ W, Calls Try.prog 96 #[.string x.name] W fun e w' => e = .returned (.bool true) ∧ Below W.heap.size W w') := Lib.hid fun W => (name_any x.name W hx).mono fun e w' ⟨a, b⟩ => ⟨by rw [← hn]; exact a, b⟩
    have HG1 := Lib.hid (HG.out x.at_)
    have HG2 := Lib.hid (HG.out x.ino)
    clear hn hx HG
    unfold Ent.v
    go_enter Try.func68, Try.ntmps68
    go_wp2_with fail
    refine (HG1.out _).mono ?_
    rintro e w1 ⟨rfl, hb1⟩
    obtain ⟨hc1, hf1⟩ := bcell hb1
    have hs1 := hb1.size
    try simp only [World.size_alloc] at hs1
    try simp only [size_setCell'] at hs1
    try have le1_0 : w.heap.size ≤ w1.heap.size := (by omega)
    try have lt1_0 : w.heap.size < w1.heap.size := (by omega)
    have HB1 : Hid (Below w.heap.size w w1) := Lib.hid (Below.trans (by first | exact HB0.out | exact HB0.out.alloc HB0.out.size _ | exact (HB0.out.alloc HB0.out.size _).alloc (le_al HB0.out.size) _ | exact ((HB0.out.alloc HB0.out.size _).alloc (le_al HB0.out.size) _).alloc (le_al (le_al HB0.out.size)) _) (hb1.mono (by (try simp only [World.size_alloc]); (try simp only [size_setCell']); omega)))
    have HN1 := Lib.hid hb1
    clear hb1 hs1
    go_wp2_with fail
    refine (HG2.out _).mono ?_
    rintro e w2 ⟨rfl, hb2⟩
    obtain ⟨hc2, hf2⟩ := bcell hb2
    have hs2 := hb2.size
    try simp only [World.size_alloc] at hs2
    try simp only [size_setCell'] at hs2
    try have le2_0 : w.heap.size ≤ w2.heap.size := (by omega)
    try have lt2_0 : w.heap.size < w2.heap.size := (by omega)
    try have le2_1 : w1.heap.size ≤ w2.heap.size := (by omega)
    try have lt2_1 : w1.heap.size < w2.heap.size := (by omega)
    have HB2 : Hid (Below w.heap.size w w2) := Lib.hid (Below.trans (by first | exact HB1.out | exact HB1.out.alloc HB1.out.size _ | exact (HB1.out.alloc HB1.out.size _).alloc (le_al HB1.out.size) _ | exact ((HB1.out.alloc HB1.out.size _).alloc (le_al HB1.out.size) _).alloc (le_al (le_al HB1.out.size)) _ | exact HB0.out | exact HB0.out.alloc HB0.out.size _ | exact (HB0.out.alloc HB0.out.size _).alloc (le_al HB0.out.size) _ | exact ((HB0.out.alloc HB0.out.size _).alloc (le_al HB0.out.size) _).alloc (le_al (le_al HB0.out.size)) _) (hb2.mono (by (try simp only [World.size_alloc]); (try simp only [size_setCell']); omega)))
    have HN2 := Lib.hid hb2
    clear hb2 hs2
    go_wp2_with fail
    refine (HL.out _).mono ?_
    rintro e w3 ⟨rfl, hb3⟩
    obtain ⟨hc3, hf3⟩ := bcell hb3
    have hs3 := hb3.size
    try simp only [World.size_alloc] at hs3
    try simp only [size_setCell'] at hs3
    try have le3_0 : w.heap.size ≤ w3.heap.size := (by omega)
    try have lt3_0 : w.heap.size < w3.heap.size := (by omega)
    try have le3_1 : w1.heap.size ≤ w3.heap.size := (by omega)
    try have lt3_1 : w1.heap.size < w3.heap.size := (by omega)
    try have le3_2 : w2.heap.size ≤ w3.heap.size := (by omega)
    try have lt3_2 : w2.heap.size < w3.heap.size := (by omega)
    have HB3 : Hid (Below w.heap.size w w3) := Lib.hid (Below.trans (by first | exact HB2.out | exact HB2.out.alloc HB2.out.size _ | exact (HB2.out.alloc HB2.out.size _).alloc (le_al HB2.out.size) _ | exact ((HB2.out.alloc HB2.out.size _).alloc (le_al HB2.out.size) _).alloc (le_al (le_al HB2.out.size)) _ | exact HB1.out | exact HB1.out.alloc HB1.out.size _ | exact (HB1.out.alloc HB1.out.size _).alloc (le_al HB1.out.size) _ | exact ((HB1.out.alloc HB1.out.size _).alloc (le_al HB1.out.size) _).alloc (le_al (le_al HB1.out.size)) _ | exact HB0.out | exact HB0.out.alloc HB0.out.size _ | exact (HB0.out.alloc HB0.out.size _).alloc (le_al HB0.out.size) _ | exact ((HB0.out.alloc HB0.out.size _).alloc (le_al HB0.out.size) _).alloc (le_al (le_al HB0.out.size)) _) (hb3.mono (by (try simp only [World.size_alloc]); (try simp only [size_setCell']); omega)))
    have HN3 := Lib.hid hb3
    clear hb3 hs3
    go_wp2_with fail
    refine (HN.out _).mono ?_
    rintro e w4 ⟨rfl, hb4⟩
    obtain ⟨hc4, hf4⟩ := bcell hb4
    have hs4 := hb4.size
    try simp only [World.size_alloc] at hs4
    try simp only [size_setCell'] at hs4
    try have le4_0 : w.heap.size ≤ w4.heap.size := (by omega)
    try have lt4_0 : w.heap.size < w4.heap.size := (by omega)
    try have le4_1 : w1.heap.size ≤ w4.heap.size := (by omega)
    try have lt4_1 : w1.heap.size < w4.heap.size := (by omega)
    try have le4_2 : w2.heap.size ≤ w4.heap.size := (by omega)
    try have lt4_2 : w2.heap.size < w4.heap.size := (by omega)
    try have le4_3 : w3.heap.size ≤ w4.heap.size := (by omega)
    try have lt4_3 : w3.heap.size < w4.heap.size := (by omega)
    have HB4 : Hid (Below w.heap.size w w4) := Lib.hid (Below.trans (by first | exact HB3.out | exact HB3.out.alloc HB3.out.size _ | exact (HB3.out.alloc HB3.out.size _).alloc (le_al HB3.out.size) _ | exact ((HB3.out.alloc HB3.out.size _).alloc (le_al HB3.out.size) _).alloc (le_al (le_al HB3.out.size)) _ | exact HB2.out | exact HB2.out.alloc HB2.out.size _ | exact (HB2.out.alloc HB2.out.size _).alloc (le_al HB2.out.size) _ | exact ((HB2.out.alloc HB2.out.size _).alloc (le_al HB2.out.size) _).alloc (le_al (le_al HB2.out.size)) _ | exact HB1.out | exact HB1.out.alloc HB1.out.size _ | exact (HB1.out.alloc HB1.out.size _).alloc (le_al HB1.out.size) _ | exact ((HB1.out.alloc HB1.out.size _).alloc (le_al HB1.out.size) _).alloc (le_al (le_al HB1.out.size)) _) (hb4.mono (by (try simp only [World.size_alloc]); (try simp only [size_setCell']); omega)))
    have HN4 := Lib.hid hb4
    clear hb4 hs4
    go_wp2
    go_ret
    exact ⟨rfl, (by first | exact HB4.out | exact HB4.out.alloc HB4.out.size _ | exact (HB4.out.alloc HB4.out.size _).alloc (le_al HB4.out.size) _ | exact ((HB4.out.alloc HB4.out.size _).alloc (le_al HB4.out.size) _).alloc (le_al (le_al HB4.out.size)) _)⟩
  have HT := Lib.hid ht
  have HB0 : Hid (Below w.heap.size w (w.alloc (.cells #[.int .i64 x.at_.t, .int .i64 x.at_.r, .string x.name, .int .i64 x.ino.t, .int .i64 x.ino.r] 33))) := Lib.hid ((Below.refl _ w).alloc (Nat.le_refl _) _)
  clear ht hn hx
  unfold Ent.v at HT ⊢
  go_enter Try.func38, Try.ntmps38
  go_wp2_with fail
  refine (HT.out _).mono ?_
  rintro e w1 ⟨rfl, hb1⟩
  obtain ⟨hc1, hf1⟩ := bcell hb1
  have hs1 := hb1.size
  try simp only [World.size_alloc] at hs1
  try simp only [size_setCell'] at hs1
  try have le1_0 : w.heap.size ≤ w1.heap.size := (by omega)
  try have lt1_0 : w.heap.size < w1.heap.size := (by omega)
  have HB1 : Hid (Below w.heap.size w w1) := Lib.hid (Below.trans (by first | exact HB0.out | exact HB0.out.alloc HB0.out.size _ | exact (HB0.out.alloc HB0.out.size _).alloc (le_al HB0.out.size) _ | exact ((HB0.out.alloc HB0.out.size _).alloc (le_al HB0.out.size) _).alloc (le_al (le_al HB0.out.size)) _) (hb1.mono (by (try simp only [World.size_alloc]); (try simp only [size_setCell']); omega)))
  have HN1 := Lib.hid hb1
  clear hb1 hs1
  go_wp2
  go_ret
  exact ⟨rfl, (by first | exact HB1.out | exact HB1.out.alloc HB1.out.size _ | exact (HB1.out.alloc HB1.out.size _).alloc (le_al HB1.out.size) _ | exact ((HB1.out.alloc HB1.out.size _).alloc (le_al HB1.out.size) _).alloc (le_al (le_al HB1.out.size)) _)⟩

end Go.Proofs.Ytmnkaohhjhjciaa
