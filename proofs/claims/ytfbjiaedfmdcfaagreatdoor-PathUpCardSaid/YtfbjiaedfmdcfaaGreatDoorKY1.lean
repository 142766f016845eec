/-
  Lists that rise by a key, plainly: finding, putting, taking out; no condition. · The contracts of strings.ContainsAny at the two bytes that no name may hold, and of op.Name; no condition. · The graph, plainly: inodes and entries as rising lists; what is done to it; what stays so; no condition.
-/
import Derived.Test.YtfbjiaedfmdcfaaGreatDoorKY0
import Derived.Sort.Walk0
/-! ## Ris -/
namespace Go.Proofs.YtfbjiaedfmdcfaaGreatDoor

/-- a strict order in which any two are one way or the other -/
structure Strict {K : Type} (lt : K → K → Prop) : Prop where
  irrefl : ∀ a, ¬ lt a a
  trans : ∀ a b c, lt a b → lt b c → lt a c
  tri : ∀ a b, lt a b ∨ a = b ∨ lt b a

theorem Strict.asymm {K : Type} {lt : K → K → Prop} (h : Strict lt) {a b : K} (h1 : lt a b) : ¬ lt b a := fun h2 => h.irrefl a (h.trans a b a h1 h2)

section
variable {α K : Type} (key : α → K) (lt : K → K → Prop)

/-- the keys rise -/
def RisesK (l : List α) : Prop := l.Pairwise fun a b => lt (key a) (key b)

theorem RisesK.filter {key : α → K} {lt : K → K → Prop} {l : List α} (h : RisesK key lt l) (p : α → Bool) : RisesK key lt (l.filter p) := h.sublist List.filter_sublist
theorem RisesK.map {key : α → K} {lt : K → K → Prop} {l : List α} (h : RisesK key lt l) (f : α → α) (hf : ∀ x, key (f x) = key x) : RisesK key lt (l.map f) := by
  unfold RisesK
  rw [List.pairwise_map]
  simp only [hf]
  exact h
theorem RisesK.apart {key : α → K} {lt : K → K → Prop} (S : Strict lt) : ∀ {l : List α}, RisesK key lt l → ∀ {a b : α}, a ∈ l → b ∈ l → key a = key b → a = b
  | [], _, _, _, ha, _, _ => by cases ha
  | x :: l, h, a, b, ha, hb, he => by
    have h' := List.pairwise_cons.1 h
    rcases List.mem_cons.1 ha with ha | ha <;> rcases List.mem_cons.1 hb with hb | hb
    · rw [ha, hb]
    · have := h'.1 b hb; rw [← ha, he] at this; exact absurd this (S.irrefl _)
    · have := h'.1 a ha; rw [← hb, he] at this; exact absurd this (S.irrefl _)
    · exact RisesK.apart S h'.2 ha hb he
theorem RisesK.nodup {key : α → K} {lt : K → K → Prop} (S : Strict lt) {l : List α} (h : RisesK key lt l) : (l.map key).Nodup := by
  rw [List.nodup_iff_pairwise_ne, List.pairwise_map]
  exact h.imp fun hab he => by rw [he] at hab; exact S.irrefl _ hab
theorem RisesK.nodup' {key : α → K} {lt : K → K → Prop} (S : Strict lt) {l : List α} (h : RisesK key lt l) : l.Nodup := by
  rw [List.nodup_iff_pairwise_ne]
  exact h.imp fun hab he => by rw [he] at hab; exact S.irrefl _ hab

/-- two that rise and hold the same are the same -/
theorem RisesK.eq {key : α → K} {lt : K → K → Prop} (S : Strict lt) : ∀ {l m : List α}, RisesK key lt l → RisesK key lt m → l.Perm m → l = m
  | [], m, _, _, hp => hp.nil_eq
  | x :: l, [], _, _, hp => absurd hp.symm.nil_eq (by simp)
  | x :: l, y :: m, hl, hm, hp => by
    have hl' := List.pairwise_cons.1 hl
    have hm' := List.pairwise_cons.1 hm
    have e : x = y := by
      have hx : x ∈ y :: m := hp.mem_iff.1 (List.mem_cons_self)
      have hy : y ∈ x :: l := hp.mem_iff.2 (List.mem_cons_self)
      rcases List.mem_cons.1 hx with h | h
      · exact h
      · rcases List.mem_cons.1 hy with h2 | h2
        · exact h2.symm
        · exact absurd (hm'.1 x h) (S.asymm (hl'.1 y h2))
    subst e
    rw [RisesK.eq S hl'.2 hm'.2 (List.Perm.cons_inv hp)]

theorem find_key [DecidableEq K] {key : α → K} {lt : K → K → Prop} (S : Strict lt) {l : List α} (h : RisesK key lt l) {k : K} {x : α} : l.find? (fun a => decide (key a = k)) = some x ↔ x ∈ l ∧ key x = k := by
  constructor
  · intro hf
    exact ⟨List.mem_of_find?_eq_some hf, by simpa using List.find?_some hf⟩
  · rintro ⟨hx, rfl⟩
    cases hf : l.find? (fun a => decide (key a = key x)) with
    | none => exact absurd (List.find?_eq_none.1 hf x hx) (by simp)
    | some y =>
      have h1 := List.mem_of_find?_eq_some hf
      have h2 : key y = key x := by simpa using List.find?_some hf
      rw [RisesK.apart S h h1 hx h2]

/-- with one more, at its place -/
def putIn [DecidableRel lt] (x : α) (l : List α) : List α := l.takeWhile (fun a => decide (lt (key a) (key x))) ++ x :: l.dropWhile (fun a => decide (lt (key a) (key x)))

variable {key lt}

theorem putIn_perm [DecidableRel lt] (x : α) (l : List α) : (putIn key lt x l).Perm (x :: l) := by
  unfold putIn
  refine List.perm_middle.trans ?_
  rw [List.takeWhile_append_dropWhile]
theorem putIn_mem [DecidableRel lt] {x y : α} {l : List α} : y ∈ putIn key lt x l ↔ y = x ∨ y ∈ l := by
  rw [(putIn_perm x l).mem_iff, List.mem_cons]
theorem putIn_len [DecidableRel lt] (x : α) (l : List α) : (putIn key lt x l).length = l.length + 1 := by rw [(putIn_perm x l).length_eq]; rfl
theorem takeWhile_all {β : Type} (p : β → Bool) : ∀ (l : List β), ∀ a ∈ l.takeWhile p, p a = true
  | [], a, h => by cases h
  | x :: l, a, h => by
    rw [List.takeWhile_cons] at h
    split at h
    · rename_i hx
      rcases List.mem_cons.1 h with rfl | h
      · exact hx
      · exact takeWhile_all p l a h
    · cases h
theorem dropWhile_rises [DecidableRel lt] (S : Strict lt) (k : K) : ∀ {l : List α}, RisesK key lt l → ∀ a ∈ l.dropWhile (fun a => decide (lt (key a) k)), ¬ lt (key a) k
  | [], _, a, h => by cases h
  | x :: l, hr, a, h => by
    have h' := List.pairwise_cons.1 hr
    rw [List.dropWhile_cons] at h
    split at h
    · exact dropWhile_rises S k h'.2 a h
    · rename_i hx
      have hx' : ¬ lt (key x) k := by simpa using hx
      rcases List.mem_cons.1 h with rfl | h
      · exact hx'
      · exact fun hak => hx' (S.trans _ _ _ (h'.1 a h) hak)
theorem putIn_rises [DecidableRel lt] (S : Strict lt) {x : α} {l : List α} (h : RisesK key lt l) (hx : ∀ a ∈ l, key a ≠ key x) : RisesK key lt (putIn key lt x l) := by
  unfold putIn RisesK
  have h0 : RisesK key lt (l.takeWhile (fun a => decide (lt (key a) (key x))) ++ l.dropWhile (fun a => decide (lt (key a) (key x)))) := by
    rw [List.takeWhile_append_dropWhile]; exact h
  have h1 := List.pairwise_append.1 h0
  have hd := dropWhile_rises S (key x) h
  have ht := takeWhile_all (fun a => decide (lt (key a) (key x))) l
  rw [List.pairwise_append, List.pairwise_cons]
  have hgt : ∀ a ∈ l.dropWhile (fun a => decide (lt (key a) (key x))), lt (key x) (key a) := by
    intro a ha
    rcases S.tri (key x) (key a) with h2 | h2 | h2
    · exact h2
    · exact absurd h2.symm (hx a (List.dropWhile_sublist _ |>.mem ha))
    · exact absurd h2 (hd a ha)
  refine ⟨h1.1, ⟨hgt, h1.2.1⟩, ?_⟩
  intro a ha b hb
  have hax : lt (key a) (key x) := by simpa using ht a ha
  rcases List.mem_cons.1 hb with rfl | hb
  · exact hax
  · exact S.trans _ _ _ hax (hgt b hb)
end

/-! ### the order of stamps, of names, of places -/
def ltSt (a b : St) : Prop := a.t < b.t ∨ (a.t = b.t ∧ a.r < b.r)
instance : DecidableRel ltSt := fun a b => by unfold ltSt; infer_instance
theorem strictSt : Strict ltSt where
  irrefl a h := by unfold ltSt at h; omega
  trans a b c h1 h2 := by unfold ltSt at *; omega
  tri a b := by
    obtain ⟨a1, a2⟩ := a
    obtain ⟨b1, b2⟩ := b
    simp only [ltSt, St.mk.injEq]
    omega
theorem cmpSt_lt {a b : St} : cmpSt a.t a.r b.t b.r < 0 ↔ ltSt a b := by
  unfold cmpSt orI cmpI ltSt
  by_cases h1 : a.t < b.t
  · simp [h1]
  · by_cases h2 : b.t < a.t
    · simp [h1, h2]; omega
    · have h3 : a.t = b.t := by omega
      rw [h3]
      by_cases h4 : a.r < b.r
      · simp [h4]
      · by_cases h5 : b.r < a.r <;> simp [h4, h5]
theorem cmpSt_zero {a b : St} : cmpSt a.t a.r b.t b.r = 0 ↔ a = b := by
  obtain ⟨a1, a2⟩ := a
  obtain ⟨b1, b2⟩ := b
  unfold cmpSt orI cmpI
  simp only [St.mk.injEq]
  by_cases h1 : a1 < b1
  · simp [h1]; omega
  · by_cases h2 : b1 < a1
    · simp [h1, h2]; omega
    · by_cases h4 : a2 < b2
      · simp [h1, h2, h4]; omega
      · by_cases h5 : b2 < a2 <;> simp [h1, h2, h4, h5] <;> omega

def ltB (a b : ByteArray) : Prop := Op.bytesLess a.toList b.toList = true
instance : DecidableRel ltB := fun a b => by unfold ltB; infer_instance
theorem bytesLess_irrefl : ∀ (x : List UInt8), Op.bytesLess x x = false
  | [] => rfl
  | a :: x => by
    unfold Op.bytesLess
    rw [bytesLess_irrefl x]
    simp
theorem bytesLess_trans : ∀ (x y z : List UInt8), Op.bytesLess x y = true → Op.bytesLess y z = true → Op.bytesLess x z = true
  | _, _, [], _, h => by cases ‹List UInt8› <;> simp [Op.bytesLess] at h
  | [], _, _ :: _, _, _ => rfl
  | _ :: _, [], _ :: _, h, _ => by simp [Op.bytesLess] at h
  | a :: x, b :: y, c :: z, h1, h2 => by
    unfold Op.bytesLess at *
    simp only [Bool.or_eq_true, Bool.and_eq_true, decide_eq_true_eq, beq_iff_eq] at *
    rcases h1 with h1 | ⟨rfl, h1⟩ <;> rcases h2 with h2 | ⟨rfl, h2⟩
    · left
      rw [UInt8.lt_iff_toNat_lt] at *
      omega
    · exact .inl h1
    · exact .inl h2
    · exact .inr ⟨rfl, bytesLess_trans x y z h1 h2⟩
theorem bytesLess_tri : ∀ (x y : List UInt8), Op.bytesLess x y = true ∨ x = y ∨ Op.bytesLess y x = true
  | [], [] => .inr (.inl rfl)
  | [], _ :: _ => .inl rfl
  | _ :: _, [] => .inr (.inr rfl)
  | a :: x, b :: y => by
    unfold Op.bytesLess
    simp only [Bool.or_eq_true, Bool.and_eq_true, decide_eq_true_eq, beq_iff_eq]
    by_cases h1 : a < b
    · exact .inl (.inl h1)
    · by_cases h2 : b < a
      · exact .inr (.inr (.inl h2))
      · have e : a = b := by
          apply UInt8.toNat_inj.1
          rw [UInt8.lt_iff_toNat_lt] at h1 h2
          omega
        subst e
        rcases bytesLess_tri x y with h | h | h
        · exact .inl (.inr ⟨rfl, h⟩)
        · exact .inr (.inl (by rw [h]))
        · exact .inr (.inr (.inr ⟨rfl, h⟩))
theorem toList_ext {a b : ByteArray} (h : a.toList = b.toList) : a = b := by
  have := toList_inj a b
  rw [h] at this
  simpa using this.symm
theorem strictB : Strict ltB where
  irrefl a h := by unfold ltB at h; rw [bytesLess_irrefl] at h; cases h
  trans a b c h1 h2 := bytesLess_trans _ _ _ h1 h2
  tri a b := by
    rcases bytesLess_tri a.toList b.toList with h | h | h
    · exact .inl h
    · exact .inr (.inl (toList_ext h))
    · exact .inr (.inr h)
theorem cmpB_lt {a b : ByteArray} : cmpB a b < 0 ↔ ltB a b := by
  unfold cmpB ltB lessB
  by_cases h : Op.bytesLess a.toList b.toList = true
  · simp [h]
  · rw [if_neg h]
    by_cases h2 : (!Op.bytesLess a.toList b.toList && !(a.toList == b.toList)) = true
    · rw [if_pos h2]; simp [h]
    · rw [if_neg h2]; simp [h]

def ltPl (a b : Pl) : Prop := ltSt a.at_ b.at_ ∨ (a.at_ = b.at_ ∧ ltB a.name b.name)
instance : DecidableRel ltPl := fun a b => by unfold ltPl; infer_instance
theorem strictPl : Strict ltPl where
  irrefl a h := by rcases h with h | h; exact strictSt.irrefl _ h; exact strictB.irrefl _ h.2
  trans a b c h1 h2 := by
    unfold ltPl at *
    rcases h1 with h1 | ⟨e1, h1⟩ <;> rcases h2 with h2 | ⟨e2, h2⟩
    · exact .inl (strictSt.trans _ _ _ h1 h2)
    · rw [← e2]; exact .inl h1
    · rw [e1]; exact .inl h2
    · exact .inr ⟨e1.trans e2, strictB.trans _ _ _ h1 h2⟩
  tri a b := by
    obtain ⟨a1, a2⟩ := a
    obtain ⟨b1, b2⟩ := b
    simp only [ltPl, Pl.mk.injEq]
    rcases strictSt.tri a1 b1 with h | h | h
    · exact .inl (.inl h)
    · subst h
      rcases strictB.tri a2 b2 with h | h | h
      · exact .inl (.inr ⟨rfl, h⟩)
      · exact .inr (.inl ⟨rfl, h⟩)
      · exact .inr (.inr (.inr ⟨rfl, h⟩))
    · exact .inr (.inr (.inl h))
def Ent.pl (x : Ent) : Pl := ⟨x.at_, x.name⟩
/-- how entries are held against each other -/
def cmpEn (x y : Ent) : Int := orI (cmpSt x.at_.t x.at_.r y.at_.t y.at_.r) (cmpB x.name y.name)
def cmpIn (x y : Ino) : Int := cmpSt x.id.t x.id.r y.id.t y.id.r
theorem cmpEn_lt {x y : Ent} : cmpEn x y < 0 ↔ ltPl x.pl y.pl := by
  unfold cmpEn ltPl Ent.pl orI
  by_cases h : cmpSt x.at_.t x.at_.r y.at_.t y.at_.r = 0
  · rw [if_pos h, cmpB_lt]
    have h1 := cmpSt_zero.1 h
    rw [h1]
    constructor
    · intro h2; exact .inr ⟨rfl, h2⟩
    · rintro (h2 | h2)
      · exact absurd h2 (strictSt.irrefl _)
      · exact h2.2
  · rw [if_neg h, cmpSt_lt]
    constructor
    · intro h2; exact .inl h2
    · rintro (h2 | h2)
      · exact h2
      · exact absurd (cmpSt_zero.2 h2.1) h
theorem cmpIn_lt {x y : Ino} : cmpIn x y < 0 ↔ ltSt x.id y.id := cmpSt_lt

abbrev RisesN (l : List Ino) : Prop := RisesK Ino.id ltSt l
abbrev RisesE (l : List Ent) : Prop := RisesK Ent.pl ltPl l
end Go.Proofs.YtfbjiaedfmdcfaaGreatDoor

/-! ## Names -/
namespace Go.Proofs.YtfbjiaedfmdcfaaGreatDoor
open Go.RowKit

set_option maxRecDepth 100000 in
set_option maxHeartbeats 400000 in
theorem indexByteLite_any (s : ByteArray) (c : Int) (w : World) :
    Calls Tryz.prog 181 #[.string s, .int .u8 c] w fun e w' => e = .returned (.int .i64 (Lib.indexByte s.data.toList c.toNat.toUInt8)) ∧ w = w' := by
  go_enter Tryz.func181, Tryz.ntmps181
  go_wp2
  rw [run_callFunc_extern Tryz.func211 (by kernel_rfl) (by kernel_rfl) (by kernel_rfl) (e := Extern.BytealgIndexByte.indexByte) (by kernel_rfl), Lib.run_indexByteString]
  simp only [Result.andThen]
  rw [Oper.upon_value]
  go_wp2
  go_ret
  exact ⟨rfl, rfl⟩

set_option maxRecDepth 100000 in
set_option maxHeartbeats 400000 in
theorem indexByte_any (s : ByteArray) (c : Int) (w : World) :
    Calls Tryz.prog 216 #[.string s, .int .u8 c] w fun e w' => e = .returned (.int .i64 (Lib.indexByte s.data.toList c.toNat.toUInt8)) ∧ w' = w := by
  go_enter Tryz.func216, Tryz.ntmps216
  go_wp2_with (go_at_call 181; refine (indexByteLite_any _ _ _).mono ?_; rintro e w' ⟨rfl, rfl⟩)
  go_ret
  exact ⟨rfl, rfl⟩

theorem indexByte_empty (c : Int) (w : World) :
    Calls Tryz.prog 216 #[.string ByteArray.empty, .int .u8 c] w fun e w' => e = .returned (.int .i64 (-1)) ∧ w' = w := indexByte_any ByteArray.empty c w

set_option maxRecDepth 100000 in
set_option maxHeartbeats 400000 in
theorem validRune_any (r : Int) (w : World) (h1 : 128 ≤ r) (hv : r < 55296 ∨ (57343 < r ∧ r ≤ 1114111)) :
    Calls Tryz.prog 217 #[.int .i32 r] w fun e w' => e = .returned (.bool true) ∧ w = w' := by
  by_cases c : r < 55296
  · go_enter Tryz.func217, Tryz.ntmps217
    go_wp2
    go_ret
    exact ⟨rfl, rfl⟩
  · have h3 : 57343 < r := by omega
    have h4 : r ≤ 1114111 := by omega
    clear hv
    go_enter Tryz.func217, Tryz.ntmps217
    go_wp2
    go_ret
    exact ⟨rfl, rfl⟩

theorem nx0 (w : World) (ty : TypeId) : (Instr.next (.pointer (some ⟨w.heap.size, 0, none⟩)) true ty).run Tryz.prog (w.iter ⟨#[47, 0]⟩ 0) =
      .ok (.tuple #[.bool true, .int .i64 0, .int .i32 47]) (w.iter ⟨#[47, 0]⟩ 1) := run_next_ascii w ⟨#[47, 0]⟩ 0 ty (by decide) (by decide)
theorem nx1 (w : World) (ty : TypeId) : (Instr.next (.pointer (some ⟨w.heap.size, 0, none⟩)) true ty).run Tryz.prog (w.iter ⟨#[47, 0]⟩ 1) =
      .ok (.tuple #[.bool true, .int .i64 1, .int .i32 0]) (w.iter ⟨#[47, 0]⟩ 2) := run_next_ascii w ⟨#[47, 0]⟩ 1 ty (by decide) (by decide)
theorem nx2 (w : World) (ty : TypeId) : (Instr.next (.pointer (some ⟨w.heap.size, 0, none⟩)) true ty).run Tryz.prog (w.iter ⟨#[47, 0]⟩ 2) =
      .ok (.tuple #[.bool false]) (w.iter ⟨#[47, 0]⟩ 2) := run_next_end w ⟨#[47, 0]⟩ 2 ty (by decide)

theorem bdrewN (w : World) (n : Nat) : Below w.heap.size w (w.drewN n) := ⟨rfl, rfl, rfl, Nat.le_refl _, fun _ _ => rfl⟩

theorem below_iter (w : World) (s : ByteArray) (p : Nat) : Below w.heap.size w (w.iter s p) := (Below.refl _ _).alloc (Nat.le_refl _) _

set_option maxRecDepth 100000 in
set_option maxHeartbeats 400000 in
theorem indexRune_err (w : World) :
    Calls Tryz.prog 196 #[.string ⟨#[47, 0]⟩, .int .i32 65533] w fun e w' => e = .returned (.int .i64 (-1)) ∧ Below w.heap.size w w' := by
  have n0 := nx0 w
  have n1 := nx1 w
  have n2 := nx2 w
  go_enter Tryz.func196, Tryz.ntmps196
  go_wp2
  refine wp_loop_rounds 3 ?_
  rw [rounds_succ]
  go_wp2
  rw [rounds_succ]
  go_wp2
  rw [rounds_succ]
  go_wp2
  go_ret
  exact ⟨rfl, below_iter _ _ _⟩

theorem conv_rune (r : Int) (w : World) : (convert 21 9 (.int .i32 r)).run Tryz.prog w = .ok (.string (Utf8.encode r)) w := by
  simp [convert, run_underlying Tryz.underlying21, run_underlying Tryz.underlying9, Conv.intToString]

set_option maxRecDepth 100000 in
set_option maxHeartbeats 800000 in
theorem indexRune_two (z : ByteArray) (hz : z.size = 2) (hz1 : ∀ h : 1 < z.size, z[1] = 0) (r : Nat) (b0 b1 : UInt8) (hcv : ∀ w, (convert 21 9 (.int .i32 r)).run Tryz.prog w = .ok (.string ⟨#[b0, b1]⟩) w)
    (w : World) (h1 : 128 ≤ r) (h2 : r ≠ 65533) (hv : r < 55296 ∨ (57343 < r ∧ r ≤ 1114111)) (hb : b1 ≠ 0) :
    Calls Tryz.prog 196 #[.string z, .int .i32 r] w fun e w' => e = .returned (.int .i64 (-1)) ∧ Below w.heap.size w w' := by
  have hvr := validRune_any r
  have HV := Lib.hid hv
  have e1 : ((r : Int) == 65533) = false := by rw [beq_eq_false_iff_ne]; omega
  obtain ⟨rs, hrs⟩ : ∃ rs : ByteArray, rs = ⟨#[b0, b1]⟩ := ⟨_, rfl⟩
  rw [← hrs] at hcv
  have hr2 : rs.size = 2 := by rw [hrs]; rfl
  have hr1 : ∀ h : 1 < rs.size, rs[1] = b1 := by subst hrs; intro h; rfl
  have g1 : 1 < z.size := by omega
  have g2 : 1 < rs.size := by omega
  have hb1 : ((z[1].toNat : Int) != (rs[1].toNat : Int)) = true := by
    rw [hz1 g1, hr1 g2, bne_iff_ne]; intro h
    exact hb (UInt8.toNat_inj.1 (by simpa using h.symm))
  clear hrs hv hz1 hr1 hb
  go_enter Tryz.func196, Tryz.ntmps196
  go_wp2_with (go_at_call 217; refine (hvr _ (by omega) (by have := HV.out; omega)).mono ?_; rintro e w' ⟨rfl, rfl⟩)
  go_step3
  go_wp2_with fail
  refine wp_loop_rounds 1 ?_
  rw [rounds_succ]
  go_wp2_with fail
  go_step3
  go_wp2_with fail
  go_region
  go_wp2_with fail
  have hw1 : IntKind.i64.wrap 2 = 2 := by decide
  have hw2 : IntKind.i64.wrap (1 + 1) = 2 := by decide
  go_quiet ((go_at_call 216; refine (indexByte_empty _ _).mono ?_; rintro e w' ⟨rfl, rfl⟩; exact ⟨rfl, _, rfl⟩))
  go_wp2
  rw [Exit.noGoto_ret]
  go_wp2
  rw [Exit.noGoto_ret]
  go_ret
  exact ⟨rfl, bdrewN _ _⟩

theorem encode_shape (r : Nat) (h1 : 128 ≤ r) (hv : r < 55296 ∨ (57343 < r ∧ r ≤ 1114111)) :
    (∃ b0 b1 : UInt8, Utf8.encode (r : Int) = ⟨#[b0, b1]⟩ ∧ b1 ≠ 0) ∨ (∃ b0 b1 b2 : UInt8, Utf8.encode (r : Int) = ⟨#[b0, b1, b2]⟩) ∨ ∃ b0 b1 b2 b3 : UInt8, Utf8.encode (r : Int) = ⟨#[b0, b1, b2, b3]⟩ := by
  have hval : Utf8.valid (r : Int) = true := by
    unfold Utf8.valid
    simp
    omega
  unfold Utf8.encode
  simp only [hval, if_true, Int.toNat_natCast]
  rw [if_neg (by omega)]
  by_cases c1 : r < 0x800
  · rw [if_pos c1]
    refine .inl ⟨_, _, rfl, ?_⟩
    intro h
    have := congrArg UInt8.toNat h
    simp at this
    omega
  · rw [if_neg c1]
    by_cases c2 : r < 0x10000
    · rw [if_pos c2]; exact .inr (.inl ⟨_, _, _, rfl⟩)
    · rw [if_neg c2]; exact .inr (.inr ⟨_, _, _, _, rfl⟩)

set_option maxRecDepth 100000 in
set_option maxHeartbeats 800000 in
theorem indexRune_more (z : ByteArray) (hz : z.size = 2) (r : Nat) (rs : ByteArray) (hcv : ∀ w, (convert 21 9 (.int .i32 r)).run Tryz.prog w = .ok (.string rs) w) (hr3 : rs.size = 3 ∨ rs.size = 4)
    (w : World) (h1 : 128 ≤ r) (h2 : r ≠ 65533) (hv : r < 55296 ∨ (57343 < r ∧ r ≤ 1114111)) :
    Calls Tryz.prog 196 #[.string z, .int .i32 r] w fun e w' => e = .returned (.int .i64 (-1)) ∧ Below w.heap.size w w' := by
  have hvr := validRune_any r
  have HV := Lib.hid hv
  have e1 : ((r : Int) == 65533) = false := by rw [beq_eq_false_iff_ne]; omega
  clear hv
  rcases hr3 with hr3 | hr3
  all_goals
    go_enter Tryz.func196, Tryz.ntmps196
    go_wp2_with (go_at_call 217; refine (hvr _ (by omega) (by have := HV.out; omega)).mono ?_; rintro e w' ⟨rfl, rfl⟩)
    go_step3
    go_wp2_with fail
    refine wp_loop_rounds 1 ?_
    rw [rounds_succ]
    go_wp2
    rw [Exit.noGoto_ret]
    go_ret
    exact ⟨rfl, (Below.refl _ _)⟩

theorem indexRune_big (z : ByteArray) (hz : z.size = 2) (hz1 : ∀ h : 1 < z.size, z[1] = 0) (r : Nat) (w : World) (h1 : 128 ≤ r) (h2 : r ≠ 65533) (hv : r < 55296 ∨ (57343 < r ∧ r ≤ 1114111)) :
    Calls Tryz.prog 196 #[.string z, .int .i32 r] w fun e w' => e = .returned (.int .i64 (-1)) ∧ Below w.heap.size w w' := by
  have hcv := conv_rune (r : Int)
  rcases encode_shape r h1 hv with ⟨b0, b1, he, hb⟩ | ⟨b0, b1, b2, he⟩ | ⟨b0, b1, b2, b3, he⟩
  · rw [he] at hcv
    exact indexRune_two z hz hz1 r b0 b1 hcv w h1 h2 hv hb
  · rw [he] at hcv
    exact indexRune_more z hz r _ hcv (.inl rfl) w h1 h2 hv
  · rw [he] at hcv
    exact indexRune_more z hz r _ hcv (.inr rfl) w h1 h2 hv

set_option maxRecDepth 100000 in
set_option maxHeartbeats 400000 in
theorem indexRune_ascii (z : ByteArray) (r : Nat) (w : World) (h1 : r < 128) :
    Calls Tryz.prog 196 #[.string z, .int .i32 r] w fun e w' => e = .returned (.int .i64 (Lib.indexByte z.data.toList (r : Int).toNat.toUInt8)) ∧ Below w.heap.size w w' := by
  go_enter Tryz.func196, Tryz.ntmps196
  go_wp2_with (go_at_call 216; refine (indexByte_any _ _ _).mono ?_; rintro e w' ⟨rfl, rfl⟩)
  go_ret
  exact ⟨rfl, (Below.refl _ _)⟩

/-- is a rune one of '/' and zero? -/
def badRune (c : Nat) : Bool := c == 47 || c == 0

theorem decode_shape (s : ByteArray) (pos : Nat) : (Utf8.decode s pos).1 < 128 ∨ (Utf8.decode s pos).1 = 65533 ∨
    (128 ≤ (Utf8.decode s pos).1 ∧ ((Utf8.decode s pos).1 < 55296 ∨ (57343 < (Utf8.decode s pos).1 ∧ (Utf8.decode s pos).1 ≤ 1114111))) := by
  have hb : ∀ k, (s.get! (pos + k)).toNat < 256 := fun k => (s.get! (pos + k)).toNat_lt
  have h0 := hb 0; have h1 := hb 1; have h2 := hb 2; have h3 := hb 3
  simp only [Utf8.decode]
  repeat' split
  all_goals simp_all [Utf8.runeError, Utf8.valid]
  all_goals omega

theorem indexRune_zs (r : Nat) (w : World) (hr : r < 128 ∨ r = 65533 ∨ (128 ≤ r ∧ (r < 55296 ∨ (57343 < r ∧ r ≤ 1114111)))) :
    Calls Tryz.prog 196 #[.string ⟨#[47, 0]⟩, .int .i32 r] w fun e w' => (∃ k : Int, e = .returned (.int .i64 k) ∧ decide (k ≥ 0) = badRune r) ∧ Below w.heap.size w w' := by
  by_cases h1 : r < 128
  · refine (indexRune_ascii _ r w h1).mono ?_
    rintro e w' ⟨rfl, hB⟩
    refine ⟨⟨_, rfl, ?_⟩, hB⟩
    rw [Int.toNat_natCast]
    have : ∀ r : Fin 128, decide (Lib.indexByte [47, 0] r.val.toUInt8 ≥ 0) = badRune r.val := by decide +kernel
    exact this ⟨r, h1⟩
  · by_cases h2 : r = 65533
    · subst h2
      refine (indexRune_err w).mono ?_
      rintro e w' ⟨rfl, hB⟩
      exact ⟨⟨_, rfl, rfl⟩, hB⟩
    · refine (indexRune_big ⟨#[47, 0]⟩ rfl (fun _ => rfl) r w (by omega) h2 (by omega)).mono ?_
      rintro e w' ⟨rfl, hB⟩
      refine ⟨⟨_, rfl, ?_⟩, hB⟩
      unfold badRune
      rw [beq_eq_false_iff_ne.2 (show r ≠ 47 by omega), beq_eq_false_iff_ne.2 (show r ≠ 0 by omega)]
      rfl

/-- does a text hold '/' or zero, rune by rune? -/
def badFrom (s : ByteArray) : Nat → Nat → Bool
  | 0, _ => false
  | n + 1, pos => if pos < s.size then (badRune (Utf8.decode s pos).1 || badFrom s n (pos + (Utf8.decode s pos).2)) else false
def hasBad (s : ByteArray) : Bool := badFrom s (s.size + 1) 0

theorem decode_pos (s : ByteArray) (pos : Nat) : 1 ≤ (Utf8.decode s pos).2 := by
  simp only [Utf8.decode]
  repeat' split
  all_goals simp

set_option maxRecDepth 100000 in
set_option maxHeartbeats 400000 in
theorem useAscii_any (n : Int) (w : World) (h : n ≤ 8) : Calls Tryz.prog 197 #[.int .i64 n] w fun e w' => e = .returned (.bool false) ∧ w = w' := by
  go_enter Tryz.func197, Tryz.ntmps197
  go_wp2
  go_ret
  exact ⟨by simp; omega, rfl⟩

def SomeK (w : World) (c : Bool) (e : Ending) (w' : World) : Prop := (∃ k : Int, e = .returned (.int .i64 k) ∧ decide (k ≥ 0) = c) ∧ Below w.heap.size w w'

theorem iterPos_of {w : World} {r pos : Nat} {s : ByteArray} (h : w.heap[r]? = some (.stringIter s pos)) : w.iterPos r = pos := by
  simp [World.iterPos, h]

set_option maxRecDepth 100000 in
set_option maxHeartbeats 1000000 in
theorem indexAny_any (s : ByteArray) (w : World) (h8 : s.size ≤ 8) :
    Calls Tryz.prog 158 #[.string s, .string ⟨#[47, 0]⟩] w (SomeK w (hasBad s)) := by
  go_enter Tryz.func158, Tryz.ntmps158
  go_wp2_with (go_at_call 197; refine (useAscii_any s.size _ (by omega)).mono ?_; rintro e w' ⟨rfl, rfl⟩)
  go_loopw [9, 10] (fun _ _ wr => ∃ pos n : Nat, Hid (wr.heap[w.heap.size]? = some (.stringIter s pos)) ∧ Hid (badFrom s n pos = hasBad s) ∧ Hid (Below w.heap.size w wr) ∧ s.size < pos + n) (fun _ _ wr => s.size + 5 - wr.iterPos w.heap.size)
  case atStart => exact ⟨0, s.size + 1, World.iter_heap _ _ _, rfl, below_iter _ _ _, by omega⟩
  case round =>
    obtain ⟨pos, n, hi, hb, hB, hn⟩ := hrel
    by_cases hlt : pos < s.size
    · obtain ⟨m, rfl⟩ : ∃ m, n = m + 1 := ⟨n - 1, by omega⟩
      have hnx := fun ty => run_next_str (P := Tryz.prog) wr w.heap.size s pos ty hi.out hlt
      have hd := decode_shape s pos
      have hd2 := decode_pos s pos
      have hbs : (badRune (Utf8.decode s pos).1 || badFrom s m (pos + (Utf8.decode s pos).2)) = hasBad s := by
        have h := hb.out
        simp only [badFrom, hlt, if_true] at h
        exact h
      generalize (Utf8.decode s pos).1 = c at *
      generalize (Utf8.decode s pos).2 = k at *
      obtain ⟨W1, hW1⟩ : ∃ W1, W1 = wr.putObj w.heap.size (.stringIter s (pos + k)) := ⟨_, rfl⟩
      have HIP := Lib.hid (iterPos_of hi.out)
      have hlw : w.heap.size < wr.heap.size := (Array.getElem?_eq_some_iff.1 hi.out).1
      have h1 : W1.heap[w.heap.size]? = some (.stringIter s (pos + k)) := by rw [hW1]; exact World.putObj_heap_same hlw
      have hB1 : Below w.heap.size w W1 := by
        rw [hW1]
        exact hB.out.trans ⟨rfl, rfl, rfl, by simp, fun i hi => World.putObj_heap_other (by omega)⟩
      have hz : w.heap.size < W1.heap.size := (Array.getElem?_eq_some_iff.1 h1).1
      rw [← hW1] at hnx
      have H1 := Lib.hid h1
      have HB1 := Lib.hid hB1
      have HBS := Lib.hid hbs
      have HD := Lib.hid hd
      clear hi hb hB hW1 h1 hB1 hbs hd hlw
      go_wp2_with fail
      refine (indexRune_zs c W1 HD.out).mono ?_
      rintro e w2 ⟨⟨kk, rfl, hk⟩, hB2⟩
      have h2 : w2.heap[w.heap.size]? = some (.stringIter s (pos + k)) := (hB2.block _ hz).trans H1.out
      have HB2 := Lib.hid (HB1.out.trans (hB2.mono (Nat.le_of_lt hz)))
      have H2 := Lib.hid h2
      clear hB2 h2 H1 HB1 hnx
      cases hc : badRune c with
      | true =>
        rw [hc] at hk HBS
        have hres : hasBad s = true := by rw [← HBS.out]; rfl
        have HR := Lib.hid hres
        have hk' : 0 ≤ kk := by simpa using hk
        clear hk hc HBS hres
        go_wp2
        go_ret
        refine ⟨⟨_, rfl, ?_⟩, HB2.out⟩
        rw [HR.out]; simp
      | false =>
        rw [hc] at hk HBS
        have HR : Hid (badFrom s m (pos + k) = hasBad s) := Lib.hid (by have := HBS.out; simpa using this)
        have hk' : ¬ 0 ≤ kk := by simpa using hk
        clear hk hc HBS
        go_wp2
        go_roundw
        case rel => exact ⟨pos + k, m, H2, HR, HB2, by omega⟩
        case measure => rw [iterPos_of H2.out, HIP.out]; omega
    · have hnx := fun ty => run_next_strEnd (P := Tryz.prog) wr w.heap.size s pos ty hi.out hlt
      have hres : hasBad s = false := by
        rw [← hb.out]
        cases n with
        | zero => rfl
        | succ m => simp [badFrom, hlt]
      have HR := Lib.hid hres
      clear hb hi hres
      go_wp2
      go_ret
      refine ⟨⟨_, rfl, ?_⟩, hB.out⟩
      rw [HR.out]; rfl

set_option maxRecDepth 100000 in
set_option maxHeartbeats 400000 in
theorem containsAny_any (s : ByteArray) (w : World) (h8 : s.size ≤ 8) :
    Calls Tryz.prog 125 #[.string s, .string ⟨#[47, 0]⟩] w fun e w' => e = .returned (.bool (hasBad s)) ∧ Below w.heap.size w w' := by
  go_enter Tryz.func125, Tryz.ntmps125
  go_wp2_with (go_at_call 158; refine (indexAny_any s _ h8).mono ?_; rintro e w' ⟨⟨k, rfl, hk⟩, hB⟩; have HK := Lib.hid hk; clear hk)
  go_ret
  exact ⟨congrArg (fun b => Ending.returned (.bool b)) HK.out, hB⟩

/-- is a text a name? as op.Name tells it -/
def nameOk (s : ByteArray) : Bool := !(s.size == 0) && (decide (s.size ≤ 8) && (!(s.data.toList == [46]) && (!(s.data.toList == [46, 46]) && !hasBad s)))

set_option maxRecDepth 100000 in
set_option maxHeartbeats 1000000 in
theorem name_any (s : ByteArray) (w : World) (hs : s.size ≤ maxLen) :
    Calls Tryz.prog 83 #[.string s] w fun e w' => e = .returned (.bool (nameOk s)) ∧ Below w.heap.size w w' := by
  unfold maxLen at hs
  have hl : s.data.toList.length = s.size := by rw [Array.length_toList]; rfl
  have ht : s.toList = s.data.toList := ByteArray.toList_eq s
  by_cases h0 : s.size = 0
  · have hr : nameOk s = false := by simp [nameOk, h0]
    have he : s.toList = [] := by rw [ht]; exact List.eq_nil_of_length_eq_zero (by omega)
    rw [hr]; clear hr hl ht h0
    go_enter Tryz.func83, Tryz.ntmps83
    go_wp2
    go_ret
    exact ⟨rfl, Below.refl _ _⟩
  have he : s.toList.isEmpty = false := by
    rw [ht]; cases hx : s.data.toList with
    | nil => rw [hx] at hl; simp at hl; omega
    | cons a b => rfl
  by_cases h8 : 8 < s.size
  · have hr : nameOk s = false := by unfold nameOk; rw [decide_eq_false (show ¬ s.size ≤ 8 by omega)]; simp
    rw [hr]; clear hr hl ht
    go_enter Tryz.func83, Tryz.ntmps83
    go_wp2
    go_ret
    exact ⟨rfl, Below.refl _ _⟩
  by_cases h1 : s.data.toList = [46]
  · have hr : nameOk s = false := by simp [nameOk, h1]
    have ht1 : s.toList = [46] := by rw [ht, h1]
    rw [hr]; clear hr hl ht h1
    go_enter Tryz.func83, Tryz.ntmps83
    go_wp2
    go_ret
    exact ⟨rfl, Below.refl _ _⟩
  have e1 : (s.toList != [46]) = true := by rw [ht, bne_iff_ne]; exact h1
  have e1' : ¬ s.toList = [46] := by rw [ht]; exact h1
  by_cases h2 : s.data.toList = [46, 46]
  · have hr : nameOk s = false := by simp [nameOk, h2]
    have ht1 : s.toList = [46, 46] := by rw [ht, h2]
    rw [hr]; clear hr hl ht h1 h2
    go_enter Tryz.func83, Tryz.ntmps83
    go_wp2
    go_ret
    exact ⟨rfl, Below.refl _ _⟩
  have e2 : (s.toList != [46, 46]) = true := by rw [ht, bne_iff_ne]; exact h2
  have e2' : ¬ s.toList = [46, 46] := by rw [ht]; exact h2
  have hr : nameOk s = !hasBad s := by
    unfold nameOk; rw [beq_eq_false_iff_ne.2 h0, decide_eq_true (show s.size ≤ 8 by omega), beq_eq_false_iff_ne.2 h1, beq_eq_false_iff_ne.2 h2]; rfl
  rw [hr]; clear hr hl ht h1 h2
  go_enter Tryz.func83, Tryz.ntmps83
  go_wp2_with (go_at_call 125; refine (containsAny_any s _ (by omega)).mono ?_; rintro e w' ⟨rfl, hB⟩)
  go_ret
  exact ⟨by simp [e1', e2'], hB⟩
end Go.Proofs.YtfbjiaedfmdcfaaGreatDoor

/-! ## Gr -/
namespace Go.Proofs.YtfbjiaedfmdcfaaGreatDoor

structure Gr where
  n : List Ino
  e : List Ent

def zeroI : Ino := ⟨⟨0, 0⟩, 0, 0, 0, ⟨#[]⟩⟩
def Gr.get (g : Gr) (id : St) : Option Ino := g.n.find? fun i => decide (i.id = id)
def Gr.got (g : Gr) (id : St) : Ino := (g.get id).getD zeroI
def Gr.find (g : Gr) (p : Pl) : Option Ent := g.e.find? fun x => decide (x.pl = p)
def Gr.look (g : Gr) (p : Pl) : Option St := (g.find p).map (·.ino)
def Gr.list (g : Gr) (at_ : St) : List Ent := g.e.filter fun x => decide (x.at_ = at_)
def Gr.isDir (g : Gr) (id : St) : Bool := (g.get id).isSome && (g.got id).kind == 1
def Gr.parent (g : Gr) (d : St) : Option St := if g.isDir d then (g.e.find? fun x => decide (x.ino = d)).map (·.at_) else none
def Gr.count (g : Gr) (id : St) : Nat := (g.e.filter fun x => decide (x.ino = id)).length

/-- one above another -/
inductive Gr.Under (g : Gr) (d : St) : St → Prop
  | here : Gr.Under g d d
  | step {a p : St} : g.parent a = some p → Gr.Under g d p → Gr.Under g d a
open Classical in
noncomputable def Gr.under (g : Gr) (a d : St) : Bool := decide (g.Under d a)
theorem Gr.under_iff {g : Gr} {a d : St} : g.under a d = true ↔ g.Under d a := by unfold Gr.under; simp

def Gr.upd (g : Gr) (id : St) (f : Ino → Ino) : List Ino := g.n.map fun i => if i.id = id then f i else i
def moreLinks (k : Int) (i : Ino) : Ino := { i with links := i.links + k }
def setTo (mode : Int) (data : ByteArray) (i : Ino) : Ino := { i with mode := mode, data := data }

def Gr.new : Gr := ⟨[⟨⟨0, 0⟩, 1, 0, 0, ⟨#[]⟩⟩], []⟩

def Gr.makeWhy (g : Gr) (id : St) (kind : Int) : Int :=
  if !mayB id.t id.r || (decide (kind < 1) || decide (3 < kind)) then 1
  else if (g.get id).isSome then 4
  else if 40 ≤ g.n.length then 13
  else 0
def Gr.made (g : Gr) (id : St) (kind : Int) : Gr := ⟨putIn Ino.id ltSt ⟨id, kind, 0, 0, ⟨#[]⟩⟩ g.n, g.e⟩
def Gr.make (g : Gr) (id : St) (kind : Int) : Gr := if g.makeWhy id kind = 0 then g.made id kind else g

def roomB (i : Ino) : Bool := if i.kind = 1 then i.links == 0 else decide (i.links < 6)
noncomputable def Gr.tieWhy (g : Gr) (x : Ent) : Int :=
  if !nameOk x.name then 1
  else if !((g.get x.at_).isSome && (g.get x.ino).isSome) then 3
  else if (g.got x.at_).kind != 1 then 6
  else if (g.look x.pl).isSome then 4
  else if (g.got x.ino).kind == 1 && (decide (x.ino = ⟨0, 0⟩) || g.under x.at_ x.ino) then 8
  else if !roomB (g.got x.ino) then 12
  else 0
def Gr.tied (g : Gr) (x : Ent) : Gr := ⟨g.upd x.ino (moreLinks 1), putIn Ent.pl ltPl x g.e⟩
noncomputable def Gr.tie (g : Gr) (x : Ent) : Gr := if g.tieWhy x = 0 then g.tied x else g

def Gr.untied (g : Gr) (p : Pl) (id : St) : Gr := ⟨g.upd id (moreLinks (-1)), g.e.filter fun x => decide (x.pl ≠ p)⟩
def Gr.untieWhy (g : Gr) (p : Pl) : Int := if (g.look p).isSome then 0 else 3
def Gr.untie (g : Gr) (p : Pl) : Gr := match g.look p with | some id => g.untied p id | none => g

def Gr.dropWhy (g : Gr) (id : St) : Int :=
  if !(g.get id).isSome then 3
  else if id = ⟨0, 0⟩ then 8
  else if 0 < (g.got id).links ∨ 0 < (g.list id).length then 7
  else 0
def Gr.dropped (g : Gr) (id : St) : Gr := ⟨g.n.filter fun i => decide (i.id ≠ id), g.e⟩
def Gr.drop (g : Gr) (id : St) : Gr := if g.dropWhy id = 0 then g.dropped id else g

def Gr.setWhy (g : Gr) (id : St) : Int := if (g.get id).isSome then 0 else 3
def Gr.set (g : Gr) (id : St) (mode : Int) (data : ByteArray) : Gr := ⟨g.upd id (setTo mode data), g.e⟩

/-- what holds of a graph, whatever was done -/
structure Gr.Ok (g : Gr) : Prop where
  sn : RisesN g.n
  se : RisesE g.e
  root : ∃ i ∈ g.n, i.id = ⟨0, 0⟩ ∧ i.kind = 1
  ends : ∀ x ∈ g.e, g.isDir x.at_ = true ∧ (g.get x.ino).isSome = true ∧ x.ino ≠ ⟨0, 0⟩
  links : ∀ i ∈ g.n, i.links = (g.count i.id : Int)
  dirs : ∀ i ∈ g.n, i.kind = 1 → i.links ≤ 1
  most : ∀ i ∈ g.n, i.links ≤ 6
  kinds : ∀ i ∈ g.n, mayB i.id.t i.id.r = true ∧ 1 ≤ i.kind ∧ i.kind ≤ 3
  names : ∀ x ∈ g.e, nameOk x.name = true
  len : g.n.length ≤ 40
  ends_up : ∃ r : St → Nat, ∀ a p, g.parent a = some p → r p < r a

section
variable {g : Gr}

theorem Gr.Ok.get_iff (h : g.Ok) {id : St} {i : Ino} : g.get id = some i ↔ i ∈ g.n ∧ i.id = id := find_key strictSt h.sn
theorem Gr.Ok.find_iff (h : g.Ok) {p : Pl} {x : Ent} : g.find p = some x ↔ x ∈ g.e ∧ x.pl = p := find_key strictPl h.se
theorem Gr.get_some {id : St} {i : Ino} (h : g.get id = some i) : i ∈ g.n ∧ i.id = id := ⟨List.mem_of_find?_eq_some h, by simpa using List.find?_some h⟩
theorem Gr.get_none {id : St} (h : g.get id = none) : ∀ i ∈ g.n, i.id ≠ id := by
  intro i hi
  simpa using List.find?_eq_none.1 h i hi
theorem Gr.isSome_iff {id : St} : (g.get id).isSome = true ↔ ∃ i ∈ g.n, i.id = id := by
  unfold Gr.get
  rw [List.find?_isSome]
  simp
theorem Gr.got_of {id : St} {i : Ino} (h : g.get id = some i) : g.got id = i := by unfold Gr.got; rw [h]; rfl
theorem Gr.isDir_iff {id : St} : g.isDir id = true ↔ ∃ i, g.get id = some i ∧ i.kind = 1 := by
  unfold Gr.isDir Gr.got
  cases g.get id with
  | none => simp
  | some i => simp
theorem Gr.find_some {p : Pl} {x : Ent} (h : g.find p = some x) : x ∈ g.e ∧ x.pl = p := ⟨List.mem_of_find?_eq_some h, by simpa using List.find?_some h⟩
theorem Gr.find_none {p : Pl} (h : g.find p = none) : ∀ x ∈ g.e, x.pl ≠ p := by
  intro x hx
  simpa using List.find?_eq_none.1 h x hx
theorem Gr.look_some {p : Pl} {id : St} (h : g.look p = some id) : ∃ x ∈ g.e, x.pl = p ∧ x.ino = id := by
  unfold Gr.look at h
  cases hf : g.find p with
  | none => rw [hf] at h; cases h
  | some x =>
    rw [hf] at h
    obtain ⟨h1, h2⟩ := Gr.find_some hf
    exact ⟨x, h1, h2, by simpa using h⟩
theorem Gr.Ok.look_iff (h : g.Ok) {p : Pl} {id : St} : g.look p = some id ↔ ∃ x ∈ g.e, x.pl = p ∧ x.ino = id := by
  constructor
  · exact Gr.look_some
  · rintro ⟨x, hx, hp, rfl⟩
    unfold Gr.look
    rw [h.find_iff.2 ⟨hx, hp⟩]; rfl
theorem Gr.look_none {p : Pl} (h : g.look p = none) : ∀ x ∈ g.e, x.pl ≠ p := by
  unfold Gr.look at h
  exact Gr.find_none (by simpa using h)

theorem filter_one {α : Type} {p : α → Bool} {l : List α} {x y : α} (hx : x ∈ l) (hy : y ∈ l) (px : p x = true) (py : p y = true) (hn : (l.filter p).length ≤ 1) : x = y := by
  have h1 : x ∈ l.filter p := List.mem_filter.2 ⟨hx, px⟩
  have h2 : y ∈ l.filter p := List.mem_filter.2 ⟨hy, py⟩
  match hl : l.filter p, hn with
  | [], _ => rw [hl] at h1; cases h1
  | [z], _ => rw [hl] at h1 h2; rw [List.mem_singleton.1 h1, List.mem_singleton.1 h2]
  | _ :: _ :: _, h => simp at h

/-- an inode's directory -/
theorem Gr.parent_some {a p : St} (hp : g.parent a = some p) : g.isDir a = true ∧ ∃ x ∈ g.e, x.ino = a ∧ x.at_ = p := by
  unfold Gr.parent at hp
  by_cases hd : g.isDir a = true
  · rw [if_pos hd] at hp
    cases hf : g.e.find? (fun x => decide (x.ino = a)) with
    | none => rw [hf] at hp; cases hp
    | some x =>
      rw [hf] at hp
      exact ⟨hd, x, List.mem_of_find?_eq_some hf, by simpa using List.find?_some hf, by simpa using hp⟩
  · rw [if_neg hd] at hp; cases hp
theorem Gr.Ok.dir_one (h : g.Ok) {a : St} (hd : g.isDir a = true) : g.count a ≤ 1 := by
  obtain ⟨i, hi, hk⟩ := Gr.isDir_iff.1 hd
  obtain ⟨h1, h2⟩ := Gr.get_some hi
  have h3 := h.dirs i h1 hk
  have h4 := h.links i h1
  rw [h2] at h4
  omega
theorem Gr.Ok.parent_iff (h : g.Ok) {a p : St} : g.parent a = some p ↔ g.isDir a = true ∧ ∃ x ∈ g.e, x.ino = a ∧ x.at_ = p := by
  constructor
  · exact Gr.parent_some
  · rintro ⟨hd, x, hx, hi, ha⟩
    unfold Gr.parent
    rw [if_pos hd]
    cases hf : g.e.find? (fun x => decide (x.ino = a)) with
    | none => exact absurd (List.find?_eq_none.1 hf x hx) (by simp [hi])
    | some y =>
      have h1 := List.mem_of_find?_eq_some hf
      have h2 : y.ino = a := by simpa using List.find?_some hf
      have := filter_one (p := fun x : Ent => decide (x.ino = a)) hx h1 (by simpa using hi) (by simpa using h2) (h.dir_one hd)
      rw [← this]; simp [ha]
/-! ### what is under what -/
theorem Gr.Ok.under_rank (h : g.Ok) : ∃ r : St → Nat, ∀ a d, g.Under d a → a = d ∨ r d < r a := by
  obtain ⟨r, hr⟩ := h.ends_up
  refine ⟨r, fun a d hu => ?_⟩
  induction hu with
  | here => exact .inl rfl
  | step hp _ ih =>
    have := hr _ _ hp
    rcases ih with rfl | ih
    · exact .inr this
    · exact .inr (by omega)
theorem Gr.Ok.under_antisymm (h : g.Ok) {a b : St} (h1 : g.Under b a) (h2 : g.Under a b) : a = b := by
  obtain ⟨r, hr⟩ := h.under_rank
  rcases hr _ _ h1 with h1 | h1
  · exact h1
  · rcases hr _ _ h2 with h2 | h2
    · exact h2.symm
    · omega
theorem Gr.Under.inv {a d : St} (h : g.Under d a) : a = d ∨ ∃ p, g.parent a = some p ∧ g.Under d p := by
  cases h with
  | here => exact .inl rfl
  | step hp hu => exact .inr ⟨_, hp, hu⟩
theorem Gr.Under.up {a d p : St} (h : g.Under d a) (hne : a ≠ d) (hp : g.parent a = some p) : g.Under d p := by
  rcases h.inv with h | ⟨q, hq, hu⟩
  · exact absurd h hne
  · rw [hp] at hq; cases hq; exact hu

/-! ### kinds that stay -/
theorem Gr.get_upd (g : Gr) (e' : List Ent) (id : St) (f : Ino → Ino) (hf : ∀ i, (f i).id = i.id) (k : St) : (⟨g.upd id f, e'⟩ : Gr).get k = if k = id then (g.get k).map f else g.get k := by
  unfold Gr.get Gr.upd
  rw [List.find?_map]
  have e1 : ((fun i : Ino => decide (i.id = k)) ∘ fun i => if i.id = id then f i else i) = fun i => decide (i.id = k) := by
    funext i
    simp only [Function.comp]
    split <;> simp [hf]
  rw [e1]
  cases hq : g.n.find? (fun i => decide (i.id = k)) with
  | none => simp
  | some i =>
    have : i.id = k := by simpa using List.find?_some hq
    simp only [Option.map_some]
    by_cases hk : k = id
    · simp [hk, this]
    · simp [hk, this]
theorem Gr.isDir_upd (g : Gr) (e' : List Ent) (id : St) (f : Ino → Ino) (hf : ∀ i, (f i).id = i.id) (hk : ∀ i, (f i).kind = i.kind) (k : St) : (⟨g.upd id f, e'⟩ : Gr).isDir k = g.isDir k := by
  unfold Gr.isDir Gr.got
  rw [Gr.get_upd g e' id f hf k]
  split
  · cases g.get k <;> simp [hk]
  · rfl
theorem Gr.some_upd (g : Gr) (e' : List Ent) (id : St) (f : Ino → Ino) (hf : ∀ i, (f i).id = i.id) (k : St) : ((⟨g.upd id f, e'⟩ : Gr).get k).isSome = (g.get k).isSome := by
  rw [Gr.get_upd g e' id f hf k]
  split
  · simp
  · rfl
theorem mem_upd {id : St} {f : Ino → Ino} {j : Ino} (h : j ∈ g.upd id f) : ∃ i ∈ g.n, j = if i.id = id then f i else i := by
  unfold Gr.upd at h
  obtain ⟨i, hi, rfl⟩ := List.mem_map.1 h
  exact ⟨i, hi, rfl⟩

/-! ### what is kept, deed by deed -/
theorem Gr.Ok.new : Gr.new.Ok where
  sn := List.pairwise_singleton _ _
  se := List.Pairwise.nil
  root := ⟨_, List.mem_singleton_self _, rfl, rfl⟩
  ends := fun x hx => by cases hx
  links := fun i hi => by rw [List.mem_singleton.1 hi]; rfl
  dirs := fun i hi => by rw [List.mem_singleton.1 hi]; intro _; decide
  most := fun i hi => by rw [List.mem_singleton.1 hi]; decide
  kinds := fun i hi => by rw [List.mem_singleton.1 hi]; decide
  names := fun x hx => by cases hx
  len := by decide
  ends_up := ⟨fun _ => 0, fun a p hp => by
    obtain ⟨_, x, hx, _⟩ := Gr.parent_some hp
    cases hx⟩

theorem Gr.makeWhy_zero {id : St} {kind : Int} (h : g.makeWhy id kind = 0) : mayB id.t id.r = true ∧ 1 ≤ kind ∧ kind ≤ 3 ∧ g.get id = none ∧ g.n.length < 40 := by
  unfold Gr.makeWhy at h
  split at h
  · cases h
  · rename_i h1
    split at h
    · cases h
    · rename_i h2
      split at h
      · cases h
      · rename_i h3
        simp at h1 h2
        exact ⟨h1.1, by omega, by omega, h2, by omega⟩

theorem Gr.get_made {id k : St} {kind : Int} (hn : g.get id = none) : (g.made id kind).get k = if k = id then some ⟨id, kind, 0, 0, ⟨#[]⟩⟩ else g.get k := by
  have hno := Gr.get_none hn
  unfold Gr.made Gr.get putIn
  have e0 : g.n.find? (fun i => decide (i.id = k)) = ((g.n.takeWhile (fun a => decide (ltSt a.id id))) ++ g.n.dropWhile (fun a => decide (ltSt a.id id))).find? (fun i => decide (i.id = k)) := by rw [List.takeWhile_append_dropWhile]
  rw [e0, List.find?_append, List.find?_append, List.find?_cons]
  by_cases hk : k = id
  · subst hk
    have : (g.n.takeWhile (fun a => decide (ltSt a.id k))).find? (fun i => decide (i.id = k)) = none := by
      rw [List.find?_eq_none]
      intro x hx
      simpa using hno x ((List.takeWhile_sublist _).mem hx)
    simp [this]
  · have : decide (id = k) = false := by simpa using fun h : id = k => hk h.symm
    simp [this, hk]
theorem Gr.isDir_made {id k : St} {kind : Int} (hn : g.get id = none) (hk : k ≠ id) : (g.made id kind).isDir k = g.isDir k := by
  unfold Gr.isDir Gr.got
  rw [Gr.get_made hn, if_neg hk]

theorem Gr.Ok.ino_ne (h : g.Ok) {id : St} (hn : g.get id = none) {x : Ent} (hx : x ∈ g.e) : x.ino ≠ id ∧ x.at_ ≠ id := by
  have h1 := h.ends x hx
  constructor
  · intro he
    rw [he, hn] at h1
    simp at h1
  · intro he
    obtain ⟨i, hi, _⟩ := Gr.isDir_iff.1 h1.1
    rw [he, hn] at hi
    cases hi

theorem Gr.Ok.make (h : g.Ok) {id : St} {kind : Int} (h0 : g.makeWhy id kind = 0) : (g.made id kind).Ok := by
  obtain ⟨hm, h1, h3, hn, hl⟩ := Gr.makeWhy_zero h0
  have hno := Gr.get_none hn
  have hmem : ∀ i, i ∈ (g.made id kind).n ↔ i = ⟨id, kind, 0, 0, ⟨#[]⟩⟩ ∨ i ∈ g.n := fun i => putIn_mem
  have hcnt : ∀ k, (g.made id kind).count k = g.count k := fun k => rfl
  have hc0 : g.count id = 0 := by
    unfold Gr.count
    rw [List.length_eq_zero_iff, List.filter_eq_nil_iff]
    intro x hx
    simpa using (h.ino_ne hn hx).1
  refine ⟨putIn_rises strictSt h.sn hno, h.se, ?_, ?_, ?_, ?_, ?_, ?_, h.names, ?_, ?_⟩
  · obtain ⟨i, hi, hr⟩ := h.root
    exact ⟨i, (hmem i).2 (.inr hi), hr⟩
  · intro x hx
    have h4 := h.ends x hx
    have h5 := h.ino_ne hn hx
    exact ⟨by rw [Gr.isDir_made hn h5.2]; exact h4.1, by rw [Gr.get_made hn, if_neg h5.1]; exact h4.2.1, h4.2.2⟩
  · intro i hi
    rcases (hmem i).1 hi with rfl | hi
    · show (0 : Int) = (g.count id : Int); rw [hc0]; rfl
    · exact h.links i hi
  · intro i hi hk
    rcases (hmem i).1 hi with rfl | hi
    · exact (by decide : (0 : Int) ≤ 1)
    · exact h.dirs i hi hk
  · intro i hi
    rcases (hmem i).1 hi with rfl | hi
    · exact (by decide : (0 : Int) ≤ 6)
    · exact h.most i hi
  · intro i hi
    rcases (hmem i).1 hi with rfl | hi
    · exact ⟨hm, h1, h3⟩
    · exact h.kinds i hi
  · show (putIn _ _ _ _).length ≤ 40
    rw [putIn_len]; omega
  · obtain ⟨r, hr⟩ := h.ends_up
    refine ⟨r, fun a p hp => hr a p ?_⟩
    obtain ⟨hd, x, hx, hxa, hxp⟩ := Gr.parent_some hp
    have h5 := h.ino_ne hn hx
    rw [h.parent_iff]
    refine ⟨?_, x, hx, hxa, hxp⟩
    rw [← hxa] at hd ⊢
    rw [Gr.isDir_made hn h5.1] at hd
    exact hd

theorem Gr.Ok.set (h : g.Ok) (id : St) (mode : Int) (data : ByteArray) : (g.set id mode data).Ok := by
  have hf : ∀ i : Ino, (setTo mode data i).id = i.id := fun _ => rfl
  have hd := Gr.isDir_upd g g.e id (setTo mode data) hf (fun _ => rfl)
  have hall : ∀ {P : Ino → Prop}, (∀ i, P i → P (setTo mode data i)) → (∀ i ∈ g.n, P i) → ∀ i ∈ (g.set id mode data).n, P i := by
    intro P hP hall j hj
    obtain ⟨i, hi, rfl⟩ := mem_upd hj
    split
    · exact hP _ (hall i hi)
    · exact hall i hi
  refine ⟨?_, h.se, ?_, ?_, ?_, ?_, ?_, ?_, h.names, ?_, ?_⟩
  · exact h.sn.map _ fun i => by split <;> rfl
  · obtain ⟨i, hi, h1, h2⟩ := h.root
    refine ⟨_, List.mem_map.2 ⟨i, hi, rfl⟩, ?_⟩
    split
    · exact ⟨h1, h2⟩
    · exact ⟨h1, h2⟩
  · intro x hx
    have h1 := h.ends x hx
    refine ⟨(hd x.at_).trans h1.1, ?_, h1.2.2⟩
    exact (Gr.some_upd g g.e id (setTo mode data) hf x.ino).trans h1.2.1
  · exact hall (P := fun i => i.links = (g.count i.id : Int)) (fun i hi => hi) h.links
  · exact hall (P := fun i => i.kind = 1 → i.links ≤ 1) (fun i hi => hi) h.dirs
  · exact hall (P := fun i => i.links ≤ 6) (fun i hi => hi) h.most
  · exact hall (P := fun i => mayB i.id.t i.id.r = true ∧ 1 ≤ i.kind ∧ i.kind ≤ 3) (fun i hi => hi) h.kinds
  · show (g.upd id _).length ≤ 40
    unfold Gr.upd; rw [List.length_map]; exact h.len
  · obtain ⟨r, hr⟩ := h.ends_up
    refine ⟨r, fun a p hp => hr a p ?_⟩
    obtain ⟨h1, x, hx, h2, h3⟩ := Gr.parent_some hp
    exact h.parent_iff.2 ⟨(hd a).symm.trans h1, x, hx, h2, h3⟩

theorem Gr.tieWhy_zero {x : Ent} (h : g.tieWhy x = 0) : nameOk x.name = true ∧ g.isDir x.at_ = true ∧ (g.get x.ino).isSome = true ∧ g.look x.pl = none ∧
    (g.isDir x.ino = true → x.ino ≠ ⟨0, 0⟩ ∧ ¬ g.Under x.ino x.at_) ∧ roomB (g.got x.ino) = true := by
  unfold Gr.tieWhy at h
  split at h
  · cases h
  · rename_i h1
    split at h
    · cases h
    · rename_i h2
      split at h
      · cases h
      · rename_i h3
        split at h
        · cases h
        · rename_i h4
          split at h
          · cases h
          · rename_i h5
            split at h
            · cases h
            · rename_i h6
              have g1 : nameOk x.name = true := by simpa using h1
              have g2 : (g.get x.at_).isSome = true ∧ (g.get x.ino).isSome = true := by
                rw [Bool.not_eq_true', Bool.not_eq_false, Bool.and_eq_true] at h2
                exact h2
              have g3 : (g.got x.at_).kind = 1 := by simpa using h3
              have g4 : g.look x.pl = none := by simpa using h4
              have g6 : roomB (g.got x.ino) = true := by simpa using h6
              refine ⟨g1, ?_, g2.2, g4, ?_, g6⟩
              · unfold Gr.isDir; rw [g2.1, g3]; rfl
              · intro hd
                have hk : (g.got x.ino).kind = 1 := by
                  unfold Gr.isDir at hd
                  simp only [Bool.and_eq_true, beq_iff_eq] at hd
                  exact hd.2
                rw [hk] at h5
                simp only [BEq.rfl, Bool.true_and, Bool.or_eq_true, decide_eq_true_eq, Gr.under_iff] at h5
                exact ⟨fun h => h5 (.inl h), fun h => h5 (.inr h)⟩

theorem count_put {g : Gr} {n' : List Ino} (x : Ent) (id : St) : (⟨n', putIn Ent.pl ltPl x g.e⟩ : Gr).count id = g.count id + if x.ino = id then 1 else 0 := by
  unfold Gr.count
  rw [((putIn_perm (key := Ent.pl) (lt := ltPl) x g.e).filter _).length_eq, List.filter_cons]
  by_cases he : x.ino = id
  · simp [he]
  · simp [he]

theorem Gr.Ok.count_none (_ : g.Ok) {d : St} (hc : g.count d = 0) : ∀ x ∈ g.e, x.ino ≠ d := by
  intro x hx he
  unfold Gr.count at hc
  rw [List.length_eq_zero_iff, List.filter_eq_nil_iff] at hc
  exact hc x hx (by simpa using he)

theorem Gr.Ok.got_links (h : g.Ok) {id : St} (hs : (g.get id).isSome = true) : (g.got id).links = (g.count id : Int) ∧ (g.got id).id = id ∧ g.got id ∈ g.n := by
  obtain ⟨i, hi⟩ := Option.isSome_iff_exists.1 hs
  rw [Gr.got_of hi]
  obtain ⟨h1, h2⟩ := Gr.get_some hi
  refine ⟨?_, h2, h1⟩
  rw [← h2]; exact h.links i h1

theorem Gr.Ok.tie (h : g.Ok) {x : Ent} (h0 : g.tieWhy x = 0) : (g.tied x).Ok := by
  obtain ⟨hname, hat, hino, hlook, hdir, hroom⟩ := Gr.tieWhy_zero h0
  have hf : ∀ i : Ino, (moreLinks 1 i).id = i.id := fun _ => rfl
  have hd : ∀ k, (g.tied x).isDir k = g.isDir k := Gr.isDir_upd g _ x.ino (moreLinks 1) hf (fun _ => rfl)
  have hs : ∀ k, ((g.tied x).get k).isSome = (g.get k).isSome := Gr.some_upd g _ x.ino (moreLinks 1) hf
  have hno := Gr.look_none hlook
  obtain ⟨hgl, hgi, hgm⟩ := h.got_links hino
  have hmem : ∀ y, y ∈ (g.tied x).e ↔ y = x ∨ y ∈ g.e := fun y => putIn_mem
  have hcnt : ∀ k, (g.tied x).count k = g.count k + if x.ino = k then 1 else 0 := fun k => count_put x k
  have hone : g.isDir x.ino = true → g.count x.ino = 0 := by
    intro hdd
    obtain ⟨i, hi, hk⟩ := Gr.isDir_iff.1 hdd
    have e := Gr.got_of hi
    unfold roomB at hroom
    rw [e, if_pos hk, ← e, hgl] at hroom
    simp at hroom
    exact hroom
  have hself : ∀ i ∈ g.n, i.id = x.ino → i = g.got x.ino := fun i hi he => RisesK.apart strictSt h.sn hi hgm (he.trans hgi.symm)
  refine ⟨?_, putIn_rises strictPl h.se hno, ?_, ?_, ?_, ?_, ?_, ?_, ?_, ?_, ?_⟩
  · exact h.sn.map _ fun i => by split <;> rfl
  · obtain ⟨i, hi, h1, h2⟩ := h.root
    refine ⟨_, List.mem_map.2 ⟨i, hi, rfl⟩, ?_⟩
    split
    · exact ⟨h1, h2⟩
    · exact ⟨h1, h2⟩
  · intro y hy
    rw [hd, hs]
    rcases (hmem y).1 hy with rfl | hy
    · refine ⟨hat, hino, fun hr => ?_⟩
      obtain ⟨i, hi, h1, h2⟩ := h.root
      have : g.isDir y.ino = true := Gr.isDir_iff.2 ⟨i, h.get_iff.2 ⟨hi, h1.trans hr.symm⟩, h2⟩
      exact (hdir this).1 hr
    · exact h.ends y hy
  · intro j hj
    obtain ⟨i, hi, rfl⟩ := mem_upd hj
    rw [hcnt]
    have hl := h.links i hi
    by_cases he : i.id = x.ino
    · rw [if_pos he]
      show i.links + 1 = ((g.count i.id + if x.ino = i.id then 1 else 0 : Nat) : Int)
      rw [if_pos he.symm]; omega
    · rw [if_neg he, if_neg (fun h => he h.symm)]; exact hl
  · intro j hj
    obtain ⟨i, hi, rfl⟩ := mem_upd hj
    by_cases he : i.id = x.ino
    · rw [if_pos he]
      intro hk
      have hk' : i.kind = 1 := hk
      show i.links + 1 ≤ 1
      have h1 := hself i hi he
      unfold roomB at hroom
      rw [← h1, if_pos hk'] at hroom
      simp at hroom; omega
    · rw [if_neg he]; exact h.dirs i hi
  · intro j hj
    obtain ⟨i, hi, rfl⟩ := mem_upd hj
    by_cases he : i.id = x.ino
    · rw [if_pos he]
      show i.links + 1 ≤ 6
      have h1 := hself i hi he
      unfold roomB at hroom
      rw [← h1] at hroom
      split at hroom
      · simp at hroom; omega
      · simp at hroom; omega
    · rw [if_neg he]; exact h.most i hi
  · intro j hj
    obtain ⟨i, hi, rfl⟩ := mem_upd hj
    split
    · exact h.kinds i hi
    · exact h.kinds i hi
  · intro y hy
    rcases (hmem y).1 hy with rfl | hy
    · exact hname
    · exact h.names y hy
  · show (g.upd _ _).length ≤ 40
    unfold Gr.upd; rw [List.length_map]; exact h.len
  · obtain ⟨r, hr⟩ := h.ends_up
    by_cases hxd : g.isDir x.ino = true
    · have hnu := (hdir hxd).2
      have hz := h.count_none (hone hxd)
      let r' : St → Nat := fun a => open Classical in if g.Under x.ino a then r a + r x.at_ + 1 else r a
      have h1 : ∀ a, g.Under x.ino a → r' a = r a + r x.at_ + 1 := fun a ha => if_pos ha
      have h2 : ∀ a, ¬ g.Under x.ino a → r' a = r a := fun a ha => if_neg ha
      refine ⟨r', fun a p hp => ?_⟩
      obtain ⟨hda, y, hy, hya, hyp⟩ := Gr.parent_some hp
      rw [hd] at hda
      rcases (hmem y).1 hy with rfl | hy
      · rw [← hya, ← hyp, h1 _ .here, h2 _ hnu]
        omega
      · have hpar : g.parent a = some p := h.parent_iff.2 ⟨hda, y, hy, hya, hyp⟩
        have hne : a ≠ x.ino := fun e => hz y hy (hya.trans e)
        have hrp := hr _ _ hpar
        by_cases hu : g.Under x.ino a
        · rw [h1 _ hu, h1 _ (hu.up hne hpar)]; omega
        · have hu2 : ¬ g.Under x.ino p := fun h => hu (.step hpar h)
          rw [h2 _ hu, h2 _ hu2]; exact hrp
    · refine ⟨r, fun a p hp => ?_⟩
      obtain ⟨hda, y, hy, hya, hyp⟩ := Gr.parent_some hp
      rw [hd] at hda
      rcases (hmem y).1 hy with rfl | hy
      · rw [hya] at hxd; exact absurd hda hxd
      · exact hr _ _ (h.parent_iff.2 ⟨hda, y, hy, hya, hyp⟩)

theorem Gr.Ok.count_untie (h : g.Ok) {x : Ent} (hx : x ∈ g.e) (n' : List Ino) (id : St) : (⟨n', g.e.filter fun y => decide (y.pl ≠ x.pl)⟩ : Gr).count id + (if x.ino = id then 1 else 0) = g.count id := by
  unfold Gr.count
  show ((g.e.filter fun y => decide (y.pl ≠ x.pl)).filter fun y => decide (y.ino = id)).length + _ = _
  have hp : (x :: g.e.filter fun y => decide (y.pl ≠ x.pl)).Perm g.e := by
    have h1 : (g.e.filter fun y => decide (y.pl = x.pl)) = [x] := by
      have hnd := (h.se.filter (fun y => decide (y.pl = x.pl)))
      have hall : ∀ y ∈ g.e.filter (fun y => decide (y.pl = x.pl)), y = x := by
        intro y hy
        have := List.mem_filter.1 hy
        exact RisesK.apart strictPl h.se this.1 hx (by simpa using this.2)
      have hxm : x ∈ g.e.filter (fun y => decide (y.pl = x.pl)) := List.mem_filter.2 ⟨hx, by simp⟩
      have hnd2 := RisesK.nodup' strictPl hnd
      match hl : g.e.filter (fun y => decide (y.pl = x.pl)) with
      | [] => rw [hl] at hxm; cases hxm
      | [z] => rw [hl] at hall; have e := hall z (by simp); subst e; exact hl
      | z :: z' :: l =>
        rw [hl] at hall hnd2
        have e1 := hall z (by simp)
        have e2 := hall z' (by simp)
        rw [e1, e2] at hnd2
        simp at hnd2
    have h2 := List.filter_append_perm (fun y : Ent => decide (y.pl = x.pl)) g.e
    rw [h1] at h2
    have e : (fun y : Ent => !decide (y.pl = x.pl)) = fun y => decide (y.pl ≠ x.pl) := by funext y; simp
    rw [e] at h2
    exact h2
  have := ((hp.filter fun y : Ent => decide (y.ino = id)).length_eq)
  rw [List.filter_cons] at this
  by_cases he : x.ino = id
  · simp only [he, if_true, decide_true, List.length_cons] at this ⊢
    omega
  · simp only [he, if_false, decide_false, Bool.false_eq_true] at this ⊢
    omega

theorem Gr.Ok.untie (h : g.Ok) {p : Pl} {id : St} (h0 : g.look p = some id) : (g.untied p id).Ok := by
  obtain ⟨x, hx, rfl, rfl⟩ := Gr.look_some h0
  have hf : ∀ i : Ino, (moreLinks (-1) i).id = i.id := fun _ => rfl
  have hd : ∀ k, (g.untied x.pl x.ino).isDir k = g.isDir k := Gr.isDir_upd g _ x.ino (moreLinks (-1)) hf (fun _ => rfl)
  have hs : ∀ k, ((g.untied x.pl x.ino).get k).isSome = (g.get k).isSome := Gr.some_upd g _ x.ino (moreLinks (-1)) hf
  have hcnt : ∀ k, (g.untied x.pl x.ino).count k + (if x.ino = k then 1 else 0) = g.count k := fun k => h.count_untie hx _ k
  have hmem : ∀ y, y ∈ (g.untied x.pl x.ino).e → y ∈ g.e := fun y hy => (List.mem_filter.1 hy).1
  refine ⟨?_, h.se.filter _, ?_, ?_, ?_, ?_, ?_, ?_, ?_, ?_, ?_⟩
  · exact h.sn.map _ fun i => by split <;> rfl
  · obtain ⟨i, hi, h1, h2⟩ := h.root
    refine ⟨_, List.mem_map.2 ⟨i, hi, rfl⟩, ?_⟩
    split
    · exact ⟨h1, h2⟩
    · exact ⟨h1, h2⟩
  · intro y hy
    rw [hd, hs]
    exact h.ends y (hmem y hy)
  · intro j hj
    obtain ⟨i, hi, rfl⟩ := mem_upd hj
    have hl := h.links i hi
    have hc := hcnt i.id
    by_cases he : i.id = x.ino
    · rw [if_pos he]
      rw [if_pos he.symm] at hc
      show i.links + -1 = ((g.untied x.pl x.ino).count i.id : Int)
      omega
    · rw [if_neg he]
      rw [if_neg (fun h => he h.symm)] at hc
      omega
  · intro j hj
    obtain ⟨i, hi, rfl⟩ := mem_upd hj
    by_cases he : i.id = x.ino
    · rw [if_pos he]
      intro hk
      have := h.dirs i hi hk
      show i.links + -1 ≤ 1
      omega
    · rw [if_neg he]; exact h.dirs i hi
  · intro j hj
    obtain ⟨i, hi, rfl⟩ := mem_upd hj
    have := h.most i hi
    by_cases he : i.id = x.ino
    · rw [if_pos he]; show i.links + -1 ≤ 6; omega
    · rw [if_neg he]; exact this
  · intro j hj
    obtain ⟨i, hi, rfl⟩ := mem_upd hj
    split
    · exact h.kinds i hi
    · exact h.kinds i hi
  · intro y hy
    exact h.names y (hmem y hy)
  · show (g.upd _ _).length ≤ 40
    unfold Gr.upd; rw [List.length_map]; exact h.len
  · obtain ⟨r, hr⟩ := h.ends_up
    refine ⟨r, fun a p hp => hr a p ?_⟩
    obtain ⟨hda, y, hy, hya, hyp⟩ := Gr.parent_some hp
    rw [hd] at hda
    exact h.parent_iff.2 ⟨hda, y, hmem y hy, hya, hyp⟩

theorem Gr.dropWhy_zero {id : St} (h : g.dropWhy id = 0) : (g.get id).isSome = true ∧ id ≠ ⟨0, 0⟩ ∧ (g.got id).links ≤ 0 ∧ g.list id = [] := by
  unfold Gr.dropWhy at h
  split at h
  · cases h
  · rename_i h1
    split at h
    · cases h
    · rename_i h2
      split at h
      · cases h
      · rename_i h3
        refine ⟨by rw [Bool.not_eq_true', Bool.not_eq_false] at h1; exact h1, h2, by omega, ?_⟩
        exact List.eq_nil_of_length_eq_zero (by omega)

theorem Gr.get_dropped (g : Gr) (id k : St) : (g.dropped id).get k = if k = id then none else g.get k := by
  unfold Gr.dropped Gr.get
  rw [List.find?_filter]
  by_cases hk : k = id
  · rw [if_pos hk, List.find?_eq_none]
    intro x hx
    subst hk
    by_cases hx : x.id = k <;> simp [hx]
  · rw [if_neg hk]
    congr 1
    funext x
    by_cases hx : x.id = k
    · simp [hx, hk]
    · simp [hx]

theorem Gr.Ok.drop (h : g.Ok) {id : St} (h0 : g.dropWhy id = 0) : (g.dropped id).Ok := by
  obtain ⟨hs, hr, hl, hlist⟩ := Gr.dropWhy_zero h0
  obtain ⟨hgl, hgi, hgm⟩ := h.got_links hs
  have hc : g.count id = 0 := by omega
  have hino := h.count_none hc
  have hat : ∀ x ∈ g.e, x.at_ ≠ id := by
    intro x hx he
    have : x ∈ g.list id := List.mem_filter.2 ⟨hx, by simpa using he⟩
    rw [hlist] at this
    cases this
  have hmem : ∀ i, i ∈ (g.dropped id).n → i ∈ g.n := fun i hi => (List.mem_filter.1 hi).1
  have hd : ∀ k, k ≠ id → (g.dropped id).isDir k = g.isDir k := fun k hk => by
    unfold Gr.isDir Gr.got
    rw [Gr.get_dropped, if_neg hk]
  refine ⟨h.sn.filter _, h.se, ?_, ?_, ?_, ?_, ?_, ?_, h.names, ?_, ?_⟩
  · obtain ⟨i, hi, h1, h2⟩ := h.root
    exact ⟨i, List.mem_filter.2 ⟨hi, by simpa [h1] using fun e => hr e.symm⟩, h1, h2⟩
  · intro x hx
    have h1 := h.ends x hx
    exact ⟨by rw [hd _ (hat x hx)]; exact h1.1, by rw [Gr.get_dropped, if_neg (hino x hx)]; exact h1.2.1, h1.2.2⟩
  · exact fun i hi => h.links i (hmem i hi)
  · exact fun i hi => h.dirs i (hmem i hi)
  · exact fun i hi => h.most i (hmem i hi)
  · exact fun i hi => h.kinds i (hmem i hi)
  · exact Nat.le_trans (List.length_filter_le _ _) h.len
  · obtain ⟨r, hrk⟩ := h.ends_up
    refine ⟨r, fun a p hp => hrk a p ?_⟩
    obtain ⟨hda, y, hy, hya, hyp⟩ := Gr.parent_some hp
    rw [hd _ (fun e => hino y hy (hya.trans e))] at hda
    exact h.parent_iff.2 ⟨hda, y, hy, hya, hyp⟩
end
end Go.Proofs.YtfbjiaedfmdcfaaGreatDoor
