/-
  What the laws of chapter 13 share: few, same, the document's comparison of operations, the example at their head; conditions: texts within reach. · A log of operations, plainly: what is added, compacted, and the graph that it makes; no condition. · What one graph lost and another one got, plainly; taken back it is the first one; no condition.
-/
import Derived.Test.YtlokljaeknmdpaaGreatKZ32
import Derived.Test.YtlokljaeknmdpaaGreatKZ23
import Derived.Test.YtlokljaeknmdpaaGreatKZ34
import Derived.Test.YtlokljaeknmdpaaGreatKZ6
import Derived.Test.YtlokljaeknmdpaaGreatKZ26
/-! ## L13 -/
namespace Go.Proofs.YtlokljaeknmdpaaGreat.L13
open Go.RowKit Go.Shelf Go.Proofs

end Go.Proofs.YtlokljaeknmdpaaGreat.L13

/-! ## LogPl -/
namespace Go.Proofs.YtlokljaeknmdpaaGreat

structure Lg where
  base : Gr
  floor : St
  ops : List Op
noncomputable def Lg.g (L : Lg) : Gr := L.ops.foldl Gr.apply L.base
/-- is an operation added? -/
def Lg.addB (L : Lg) (o : Op) : Bool := decide (ltSt L.floor o.stamp) && putB L.ops o
def Lg.add (L : Lg) (o : Op) : Lg := if L.addB o then ⟨L.base, L.floor, putOp L.ops o⟩ else L
def Lg.compactB (L : Lg) (s : St) : Bool := s.mayB && decide (ltSt L.floor s)
noncomputable def Lg.compact (L : Lg) (s : St) : Lg := if L.compactB s then ⟨onOps L.base (L.ops.take (belowOps L.ops s)), s, L.ops.drop (belowOps L.ops s)⟩ else L
def Lg.from (base : Gr) (floor : St) (l : List Op) : Lg := l.foldl Lg.add ⟨base, floor, []⟩
/-- what holds of a log, whatever was done -/
structure Lg.Ok (L : Lg) : Prop where
  base : L.base.Ok
  thin : L.base.Thin
  rises : RisesO L.ops
  may : ∀ o ∈ L.ops, opMay o = true
  above : ∀ o ∈ L.ops, ltSt L.floor o.stamp
theorem Lg.Ok.new {base : Gr} (h : base.Ok) (ht : base.Thin) (floor : St) : (⟨base, floor, []⟩ : Lg).Ok := ⟨h, ht, List.Pairwise.nil, by simp, by simp⟩
theorem Lg.Ok.add {L : Lg} (h : L.Ok) (o : Op) : (L.add o).Ok := by
  unfold Lg.add
  split
  · rename_i hb
    unfold Lg.addB at hb
    simp only [Bool.and_eq_true, decide_eq_true_eq] at hb
    refine ⟨h.base, h.thin, putOp_rises h.rises o, putOp_may h.may o, fun x hx => ?_⟩
    rcases mem_putOp.1 hx with hx | ⟨rfl, _⟩
    · exact h.above x hx
    · exact hb.1
  · exact h
theorem Lg.Ok.sort {L : Lg} (h : L.Ok) {m : List Op} (hm : m.Sublist L.ops) : sortOps m = m := sort_sorted (h.rises.sublist hm) fun a ha => h.may a (hm.subset ha)
/-- the graph is that of the base and the operations -/
theorem Lg.Ok.on {L : Lg} (h : L.Ok) : onOps L.base L.ops = L.g := by unfold onOps Lg.g; rw [h.sort (List.Sublist.refl _)]
theorem below_split {l : List Op} (h : RisesO l) (s : St) : (∀ o ∈ l.take (belowOps l s), ¬ ltSt s o.stamp) ∧ ∀ o ∈ l.drop (belowOps l s), ltSt s o.stamp := by
  unfold belowOps
  obtain ⟨h1, h2⟩ := takeWhile_take (fun a : Op => !decide (ltSt s a.stamp)) l
  rw [h1, h2]
  constructor
  · intro o ho
    simpa using takeWhile_all (fun a : Op => !decide (ltSt s a.stamp)) l o ho
  · clear h1 h2
    induction l with
    | nil => intro o ho; cases ho
    | cons a l ih =>
      intro o ho
      have h' := List.pairwise_cons.1 h
      rw [List.dropWhile_cons] at ho
      split at ho
      · exact ih h'.2 o ho
      · rename_i ha
        have ha' : ltSt s a.stamp := by simpa using ha
        rcases List.mem_cons.1 ho with rfl | ho
        · exact ha'
        · exact strictSt.trans _ _ _ ha' (h'.1 o ho)
theorem Lg.Ok.compact {L : Lg} (h : L.Ok) (s : St) : (L.compact s).Ok := by
  unfold Lg.compact
  split
  · refine ⟨onOps_ok h.base _, onOps_thin h.thin _, h.rises.sublist (List.drop_sublist _ _), fun o ho => h.may o (List.mem_of_mem_drop ho), (below_split h.rises s).2⟩
  · exact h
/-- compacted, the graph is the same -/
theorem Lg.Ok.compact_g {L : Lg} (h : L.Ok) (s : St) : (L.compact s).g = L.g := by
  unfold Lg.compact
  split
  · unfold Lg.g onOps
    simp only
    rw [h.sort (List.take_sublist _ _), ← List.foldl_append, List.take_append_drop]
  · rfl
/-- of nothing: what is sorted -/
theorem may_above {o : Op} (h : opMay o = true) : ltSt ⟨0, 0⟩ o.stamp := by
  obtain ⟨h1, h2⟩ := opMay_stamp h
  generalize o.stamp = s at *
  cases s with
  | mk t r =>
    have h3 : ¬ (t = 0 ∧ r = 0) := by rintro ⟨rfl, rfl⟩; exact h2 rfl
    have h1 : YtlokljaeknmdpaaGreat.mayB t r = true := h1
    unfold YtlokljaeknmdpaaGreat.mayB at h1
    simp only [Bool.or_eq_true, Bool.and_eq_true, decide_eq_true_eq] at h1
    show 0 < t ∨ (0 = t ∧ 0 < r)
    omega
/-! ### the theorem: nothing came too late -/
/-- all that came: what is compacted, and what the log has -/
structure Lg.All (L : Lg) (all : List Op) : Prop where
  ok : L.Ok
  parts : ∃ P : List Op, sortOps all = P ++ L.ops ∧ L.base = ran P ∧ ∀ o ∈ P, ¬ ltSt L.floor o.stamp
theorem putIn_behind {P l : List Op} {o : Op} (h : ∀ a ∈ P, ltSt a.stamp o.stamp) : putIn Op.stamp ltSt o (P ++ l) = P ++ putIn Op.stamp ltSt o l := by
  unfold putIn
  induction P with
  | nil => rfl
  | cons a P ih =>
    have ha : decide (ltSt a.stamp o.stamp) = true := decide_eq_true (h a (by simp))
    have ih := ih fun b hb => h b (by simp [hb])
    rw [List.cons_append, List.takeWhile_cons, List.dropWhile_cons, ha]
    simp only [if_true, List.cons_append]
    rw [ih]
theorem Lg.All.new : (⟨Gr.new, ⟨0, 0⟩, []⟩ : Lg).All [] := ⟨Lg.Ok.new Gr.Ok.new Gr.Thin.new _, [], rfl, rfl, by simp⟩
/-- one that comes in time -/
theorem Lg.All.add {L : Lg} {all : List Op} (h : L.All all) (o : Op) (hlate : L.floor = ⟨0, 0⟩ ∨ ltSt L.floor o.stamp) : (L.add o).All (all ++ [o]) := by
  obtain ⟨P, h1, h2, h3⟩ := h.parts
  refine ⟨h.ok.add o, ?_⟩
  have hs := sort_snoc all o
  rw [h1] at hs
  cases hm : opMay o with
  | false =>
    have hb : putB (P ++ L.ops) o = false := by unfold putB; rw [hm]; rfl
    have hb2 : L.addB o = false := by unfold Lg.addB putB; rw [hm]; simp
    rw [put_not hb] at hs
    unfold Lg.add
    rw [hb2]
    exact ⟨P, hs, h2, h3⟩
  | true =>
    have hab : ltSt L.floor o.stamp := by
      rcases hlate with e | e
      · rw [e]; exact may_above hm
      · exact e
    have hP : ∀ a ∈ P, ltSt a.stamp o.stamp := fun a ha => by
      rcases strictSt.tri a.stamp o.stamp with h4 | h4 | h4
      · exact h4
      · exact absurd (h4 ▸ hab) (h3 a ha)
      · exact absurd (strictSt.trans _ _ _ hab h4) (h3 a ha)
    have hpb : putB (P ++ L.ops) o = putB L.ops o := by
      rw [Bool.eq_iff_iff, putB_iff, putB_iff]
      constructor
      · rintro ⟨a, b⟩; exact ⟨a, fun x hx => b x (List.mem_append_right _ hx)⟩
      · rintro ⟨a, b⟩
        refine ⟨a, fun x hx e => ?_⟩
        rcases List.mem_append.1 hx with hx | hx
        · have := hP x hx
          rw [e] at this
          exact strictSt.irrefl _ this
        · exact b x hx e
    have hadd : L.addB o = putB L.ops o := by unfold Lg.addB; rw [decide_eq_true hab, Bool.true_and]
    unfold Lg.add
    rw [hadd]
    cases hb : putB L.ops o with
    | false =>
      rw [hb] at hpb
      rw [put_not hpb] at hs
      exact ⟨P, hs, h2, h3⟩
    | true =>
      rw [hb] at hpb
      refine ⟨P, ?_, h2, h3⟩
      rw [hs]
      unfold putOp
      rw [if_pos hpb, if_pos hb]
      exact putIn_behind hP
theorem Lg.All.compact {L : Lg} {all : List Op} (h : L.All all) (s : St) : (L.compact s).All all := by
  obtain ⟨P, h1, h2, h3⟩ := h.parts
  refine ⟨h.ok.compact s, ?_⟩
  unfold Lg.compact
  split
  · rename_i hc
    unfold Lg.compactB at hc
    simp only [Bool.and_eq_true, decide_eq_true_eq] at hc
    refine ⟨P ++ L.ops.take (belowOps L.ops s), ?_, ?_, fun o ho => ?_⟩
    · rw [List.append_assoc, List.take_append_drop]; exact h1
    · show onOps L.base _ = _
      unfold onOps ran
      rw [h.ok.sort (List.take_sublist _ _), h2, List.foldl_append]
      rfl
    · rcases List.mem_append.1 ho with ho | ho
      · exact fun hlt => h3 o ho (strictSt.trans _ _ _ hc.2 hlt)
      · exact (below_split h.ok.rises s).1 o ho
  · exact ⟨P, h1, h2, h3⟩
theorem Lg.All.g {L : Lg} {all : List Op} (h : L.All all) : L.g = ofOps all := by
  obtain ⟨P, h1, h2, _⟩ := h.parts
  unfold Lg.g ofOps ran
  rw [h1, h2, List.foldl_append]
  rfl

/-! ### what is there isn't added again -/
theorem add_len (L : Lg) (o : Op) : (L.add o).ops.length = L.ops.length + if L.addB o then 1 else 0 := by
  unfold Lg.add
  split
  · rename_i hb
    unfold Lg.addB at hb
    simp only [Bool.and_eq_true] at hb
    show (putOp L.ops o).length = _
    rw [putOp_len, if_pos hb.2]
  · rfl
end Go.Proofs.YtlokljaeknmdpaaGreat

/-! ## UndoPl -/
namespace Go.Proofs.YtlokljaeknmdpaaGreat

/-! ### a graph is what it holds -/
def Ino.core (i : Ino) : Int × Int × ByteArray := (i.kind, i.mode, i.data)
def Gr.core (g : Gr) (id : St) : Option (Int × Int × ByteArray) := (g.get id).map Ino.core
section
variable {g h : Gr}
theorem Gr.core_some {g : Gr} {id : St} : (g.core id).isSome = (g.get id).isSome := by unfold Gr.core; rw [Option.isSome_map]
theorem Gr.core_dir {g : Gr} {id : St} : g.isDir id = true ↔ ∃ m d, g.core id = some (1, m, d) := by
  rw [Gr.isDir_iff]
  unfold Gr.core
  constructor
  · rintro ⟨i, hi, hk⟩
    exact ⟨i.mode, i.data, by rw [hi, ← hk]; rfl⟩
  · rintro ⟨m, d, hc⟩
    cases hg : g.get id with
    | none => rw [hg] at hc; cases hc
    | some i =>
      rw [hg] at hc
      simp only [Option.map_some, Option.some.injEq, Ino.core, Prod.mk.injEq] at hc
      exact ⟨i, rfl, hc.1⟩
theorem mem_of_nodup_eq {α : Type} {l m : List α} (h1 : l.Nodup) (h2 : m.Nodup) (h : ∀ a, a ∈ l ↔ a ∈ m) : l.Perm m := (List.perm_ext_iff_of_nodup h1 h2).2 h
theorem Gr.Ok.ents_eq (hg : g.Ok) (hh : h.Ok) (he : ∀ x, x ∈ g.e ↔ x ∈ h.e) : g.e = h.e :=
  RisesK.eq strictPl hg.se hh.se (mem_of_nodup_eq (RisesK.nodup' strictPl hg.se) (RisesK.nodup' strictPl hh.se) he)
theorem Gr.Ok.ext (hg : g.Ok) (hh : h.Ok) (hc : ∀ id, g.core id = h.core id) (he : ∀ x, x ∈ g.e ↔ x ∈ h.e) : g = h := by
  have e1 := hg.ents_eq hh he
  have half : ∀ {a b : Gr}, a.Ok → b.Ok → (∀ id, a.core id = b.core id) → a.e = b.e → ∀ i, i ∈ a.n → i ∈ b.n := by
    intro a b ha hb hc he i hi
    have h1 := hc i.id
    have h2 := ha.get_iff.2 ⟨hi, rfl⟩
    unfold Gr.core at h1
    rw [h2] at h1
    cases h3 : b.get i.id with
    | none => rw [h3] at h1; cases h1
    | some j =>
      rw [h3] at h1
      obtain ⟨h4, h5⟩ := Gr.get_some h3
      simp only [Option.map_some, Option.some.injEq, Ino.core, Prod.mk.injEq] at h1
      have l1 := ha.links i hi
      have l2 := hb.links j h4
      have : i = j := by
        obtain ⟨a1, a2, a3, a4, a5⟩ := i
        obtain ⟨b1, b2, b3, b4, b5⟩ := j
        simp only at h1 h5 l1 l2 ⊢
        unfold Gr.count at l1 l2
        rw [Ino.mk.injEq]
        refine ⟨h5.symm, h1.1, ?_, h1.2.1, h1.2.2⟩
        rw [l1, l2, he, h5]
      rw [this]; exact h4
  have e2 : g.n = h.n := RisesK.eq strictSt hg.sn hh.sn (mem_of_nodup_eq (RisesK.nodup' strictSt hg.sn) (RisesK.nodup' strictSt hh.sn) fun i => ⟨half hg hh hc e1 i, half hh hg (fun id => (hc id).symm) e1.symm i⟩)
  cases g; cases h
  simp only at e1 e2
  rw [e1, e2]

/-! ### what each deed does to it -/
theorem Gr.core_upd (g : Gr) (e' : List Ent) (id : St) (f : Ino → Ino) (hf : ∀ i, (f i).id = i.id) (hc : ∀ i, (f i).core = i.core) (k : St) : (⟨g.upd id f, e'⟩ : Gr).core k = g.core k := by
  unfold Gr.core
  rw [Gr.get_upd g e' id f hf k]
  split
  · cases g.get k <;> simp [hc]
  · rfl
theorem Gr.core_tied (g : Gr) (x : Ent) (k : St) : (g.tied x).core k = g.core k := Gr.core_upd g _ x.ino (moreLinks 1) (fun _ => rfl) (fun _ => rfl) k
theorem Gr.core_untied (g : Gr) (p : Pl) (id k : St) : (g.untied p id).core k = g.core k := Gr.core_upd g _ id (moreLinks (-1)) (fun _ => rfl) (fun _ => rfl) k
theorem Gr.core_dropped (g : Gr) (id k : St) : (g.dropped id).core k = if k = id then none else g.core k := by
  unfold Gr.core
  rw [Gr.get_dropped]
  split <;> rfl
theorem Gr.core_set (g : Gr) (id : St) (m : Int) (d : ByteArray) (k : St) : (g.set id m d).core k = if k = id then (g.core k).map (fun c => (c.1, m, d)) else g.core k := by
  unfold Gr.core
  rw [Gr.get_set]
  split
  · cases g.get k <;> rfl
  · rfl
theorem Gr.core_made (g : Gr) {id : St} {kind : Int} (hn : g.get id = none) (k : St) : (g.made id kind).core k = if k = id then some (kind, 0, ⟨#[]⟩) else g.core k := by
  unfold Gr.core
  rw [Gr.get_made hn]
  split <;> rfl
theorem Gr.core_untie (g : Gr) (p : Pl) (k : St) : (g.untie p).core k = g.core k := by
  unfold Gr.untie
  cases g.look p with
  | none => rfl
  | some id => exact Gr.core_untied g p id k
theorem Gr.mem_untie (g : Gr) (p : Pl) (x : Ent) : x ∈ (g.untie p).e ↔ x ∈ g.e ∧ x.pl ≠ p := by
  unfold Gr.untie
  cases hl : g.look p with
  | none =>
    constructor
    · exact fun hx => ⟨hx, Gr.look_none hl x hx⟩
    · exact fun hx => hx.1
  | some id =>
    show x ∈ g.e.filter _ ↔ _
    rw [List.mem_filter]; simp
theorem Gr.core_setIf (g : Gr) (id : St) (m : Int) (d : ByteArray) (k : St) : (g.setIf id m d).core k = if k = id then (g.core k).map (fun c => (c.1, m, d)) else g.core k := by
  unfold Gr.setIf Gr.setWhy
  cases hs : (g.get id).isSome with
  | true => exact Gr.core_set g id m d k
  | false =>
    simp only [Bool.false_eq_true, if_false, show ¬ ((3 : Int) = 0) by decide]
    split
    · rename_i hk
      have : g.core k = none := by
        have h1 := Gr.core_some (g := g) (id := k)
        rw [hk, hs] at h1
        rw [hk]
        cases hc : g.core id with
        | none => rfl
        | some c => rw [hc] at h1; cases h1
      rw [this]; rfl
    · rfl
end

/-! ### what differs -/
def sameI (x y : Ino) : Bool := decide (x.id = y.id ∧ x.core = y.core)
def alone {α : Type} (a b : List α) (s : α → α → Bool) : List α := a.filter fun x => !b.any fun y => s x y
structure Rec where
  lost : List Ent
  made : List Ent
  was : List Ino
  new : List St
  err : Int
def lostOf (a b : Gr) : List Ent := alone a.e b.e fun x y => decide (x = y)
def wasOf (a b : Gr) : List Ino := alone a.n b.n sameI
def newOf (a b : Gr) : List St := (alone b.n a.n fun x y => decide (x.id = y.id)).map (·.id)
def diffOf (a b : Gr) : Rec := ⟨lostOf a b, lostOf b a, wasOf a b, newOf a b, 0⟩
theorem mem_alone {α : Type} {a b : List α} {s : α → α → Bool} {x : α} : x ∈ alone a b s ↔ x ∈ a ∧ ∀ y ∈ b, s x y = false := by
  unfold alone
  rw [List.mem_filter]
  simp
theorem mem_lost {a b : Gr} {x : Ent} : x ∈ lostOf a b ↔ x ∈ a.e ∧ x ∉ b.e := by
  unfold lostOf
  rw [mem_alone]
  constructor
  · rintro ⟨h1, h2⟩
    exact ⟨h1, fun hx => by have := h2 x hx; simp at this⟩
  · rintro ⟨h1, h2⟩
    exact ⟨h1, fun y hy => by simpa using fun e : x = y => h2 (by rw [e]; exact hy)⟩
theorem mem_new {a b : Gr} {id : St} : id ∈ newOf a b ↔ (b.get id).isSome = true ∧ a.get id = none := by
  unfold newOf
  rw [List.mem_map]
  constructor
  · rintro ⟨i, hi, rfl⟩
    obtain ⟨h1, h2⟩ := mem_alone.1 hi
    refine ⟨Gr.isSome_iff.2 ⟨i, h1, rfl⟩, ?_⟩
    cases hg : a.get i.id with
    | none => rfl
    | some j =>
      obtain ⟨h3, h4⟩ := Gr.get_some hg
      have := h2 j h3
      simp [h4] at this
  · rintro ⟨h1, h2⟩
    obtain ⟨i, hi, rfl⟩ := Gr.isSome_iff.1 h1
    exact ⟨i, mem_alone.2 ⟨hi, fun y hy => by simpa using fun e => Gr.get_none h2 y hy e.symm⟩, rfl⟩
theorem mem_was {a b : Gr} (hb : b.Ok) {i : Ino} : i ∈ wasOf a b ↔ i ∈ a.n ∧ b.core i.id ≠ some i.core := by
  unfold wasOf
  rw [mem_alone]
  have key : (∀ y ∈ b.n, sameI i y = false) ↔ b.core i.id ≠ some i.core := by
    constructor
    · intro h hc
      unfold Gr.core at hc
      cases hg : b.get i.id with
      | none => rw [hg] at hc; cases hc
      | some j =>
        rw [hg] at hc
        obtain ⟨h3, h4⟩ := Gr.get_some hg
        have := h j h3
        unfold sameI at this
        simp only [Option.map_some, Option.some.injEq] at hc
        rw [decide_eq_false_iff_not] at this
        exact this ⟨h4.symm, hc.symm⟩
    · intro h y hy
      unfold sameI
      rw [decide_eq_false_iff_not]
      rintro ⟨h1, h2⟩
      apply h
      unfold Gr.core
      rw [hb.get_iff.2 ⟨hy, h1.symm⟩, h2]; rfl
  rw [key]

/-! ### taken back -/
def Gr.remake (g : Gr) (i : Ino) : Gr := (g.make i.id i.kind).setIf i.id i.mode i.data
noncomputable def Gr.back (g : Gr) (r : Rec) : Gr :=
  r.lost.foldl Gr.tie (r.was.foldl Gr.remake (r.new.foldl Gr.drop (r.made.foldl (fun g x => g.untie x.pl) g)))

theorem untieAll {g : Gr} (hg : g.Ok) : ∀ (l : List Ent), (l.foldl (fun g x => g.untie x.pl) g).Ok ∧ (∀ k, (l.foldl (fun g x => g.untie x.pl) g).core k = g.core k) ∧ ∀ x, x ∈ (l.foldl (fun g x => g.untie x.pl) g).e ↔ x ∈ g.e ∧ ∀ m ∈ l, x.pl ≠ m.pl := by
  intro l
  induction l generalizing g with
  | nil => exact ⟨hg, fun _ => rfl, fun x => by simp⟩
  | cons m l ih =>
    obtain ⟨h1, h2, h3⟩ := ih (hg.untieD m.pl)
    refine ⟨h1, fun k => (h2 k).trans (Gr.core_untie g m.pl k), fun x => ?_⟩
    show x ∈ (l.foldl _ (g.untie m.pl)).e ↔ _
    rw [h3, Gr.mem_untie]
    simp only [List.mem_cons, forall_eq_or_imp]
    constructor
    · rintro ⟨⟨a, b⟩, c⟩; exact ⟨a, b, c⟩
    · rintro ⟨a, b, c⟩; exact ⟨⟨a, b⟩, c⟩
theorem dropAll {a : Gr} (ha : a.Ok) : ∀ (l : List St) {g : Gr}, g.Ok → (∀ x ∈ g.e, x ∈ a.e) → (∀ id ∈ l, a.get id = none) →
    (l.foldl Gr.drop g).Ok ∧ (l.foldl Gr.drop g).e = g.e ∧ ∀ k, (l.foldl Gr.drop g).core k = if k ∈ l then none else g.core k := by
  intro l
  induction l with
  | nil => intro g hg _ _; exact ⟨hg, rfl, fun k => by simp⟩
  | cons id l ih =>
    intro g hg he hl
    have hn := hl id (by simp)
    have hstep : (g.drop id).e = g.e ∧ ∀ k, (g.drop id).core k = if k = id then none else g.core k := by
      by_cases hs : (g.get id).isSome = true
      · have hino : ∀ x ∈ g.e, x.ino ≠ id ∧ x.at_ ≠ id := fun x hx => ha.ino_ne hn (he x hx)
        have hw : g.dropWhy id = 0 := by
          unfold Gr.dropWhy
          have h0 : id ≠ ⟨0, 0⟩ := by
            intro e
            obtain ⟨i, hi, h1, _⟩ := ha.root
            exact Gr.get_none hn i hi (h1.trans e.symm)
          have hc : g.count id = 0 := by
            unfold Gr.count
            rw [List.length_eq_zero_iff, List.filter_eq_nil_iff]
            intro x hx; simpa using (hino x hx).1
          have hlist : g.list id = [] := by
            unfold Gr.list
            rw [List.filter_eq_nil_iff]
            intro x hx; simpa using (hino x hx).2
          have hl := (hg.got_links hs).1
          rw [hs, hl, hc, hlist, if_neg (by simp), if_neg h0, if_neg (by simp)]
        unfold Gr.drop
        rw [if_pos hw]
        exact ⟨rfl, Gr.core_dropped g id⟩
      · have hw : g.dropWhy id ≠ 0 := by
          unfold Gr.dropWhy
          rw [show (g.get id).isSome = false by simpa using hs]
          simp
        unfold Gr.drop
        rw [if_neg hw]
        refine ⟨rfl, fun k => ?_⟩
        split
        · rename_i hk
          have h1 := Gr.core_some (g := g) (id := id)
          rw [show (g.get id).isSome = false by simpa using hs] at h1
          rw [hk]
          cases hc : g.core id with
          | none => rfl
          | some c => rw [hc] at h1; cases h1
        · rfl
    obtain ⟨h1, h2, h3⟩ := ih (hg.dropD id) (fun x hx => he x (by rw [hstep.1] at hx; exact hx)) (fun k hk => hl k (by simp [hk]))
    refine ⟨h1, h2.trans hstep.1, fun k => ?_⟩
    show (l.foldl Gr.drop (g.drop id)).core k = _
    rw [h3, hstep.2]
    simp only [List.mem_cons]
    by_cases hk : k ∈ l
    · simp [hk]
    · by_cases hk2 : k = id <;> simp [hk, hk2]
theorem get_len {g : Gr} (hg : g.Ok) {a : Gr} (_ : a.Ok) (hsub : ∀ k, (g.get k).isSome = true → (a.get k).isSome = true) {id : St} (h1 : (a.get id).isSome = true) (h2 : g.get id = none) : g.n.length < a.n.length := by
  have hn : (id :: g.n.map (·.id)).Nodup := by
    rw [List.nodup_cons]
    refine ⟨fun hm => ?_, hg.sn.nodup strictSt⟩
    obtain ⟨i, hi, he⟩ := List.mem_map.1 hm
    exact Gr.get_none h2 i hi he
  have := nodup_len (id :: g.n.map (·.id)) (a.n.map (·.id)) hn fun k hk => by
    have : (a.get k).isSome = true := by
      rcases List.mem_cons.1 hk with rfl | hk
      · exact h1
      · obtain ⟨i, hi, rfl⟩ := List.mem_map.1 hk
        exact hsub _ (Gr.isSome_iff.2 ⟨i, hi, rfl⟩)
    obtain ⟨i, hi, he⟩ := Gr.isSome_iff.1 this
    exact List.mem_map.2 ⟨i, hi, he⟩
  simp only [List.length_cons, List.length_map] at this
  omega
theorem Gr.make_e (g : Gr) (id : St) (k : Int) : (g.make id k).e = g.e := by unfold Gr.make; split <;> rfl
theorem Gr.setIf_e (g : Gr) (id : St) (m : Int) (d : ByteArray) : (g.setIf id m d).e = g.e := by unfold Gr.setIf; split <;> rfl
theorem remakeAll {a : Gr} (ha : a.Ok) : ∀ (l : List Ino) {g : Gr}, g.Ok → (∀ k, (g.get k).isSome = true → (a.get k).isSome = true) → (∀ k c d, g.core k = some c → a.core k = some d → c.1 = d.1) → (∀ i ∈ l, i ∈ a.n) →
    (l.foldl Gr.remake g).Ok ∧ (l.foldl Gr.remake g).e = g.e ∧ ∀ k, (l.foldl Gr.remake g).core k = if k ∈ l.map (·.id) then a.core k else g.core k := by
  intro l
  induction l with
  | nil => intro g hg _ _ _; exact ⟨hg, rfl, fun k => by simp⟩
  | cons i l ih =>
    intro g hg hsub hkind hl
    have hi := hl i (by simp)
    have hai : a.get i.id = some i := ha.get_iff.2 ⟨hi, rfl⟩
    have hac : a.core i.id = some i.core := by unfold Gr.core; rw [hai]; rfl
    have hok : (g.remake i).Ok := (hg.makeD _ _).setIf _ _ _
    have he : (g.remake i).e = g.e := by unfold Gr.remake; rw [Gr.setIf_e, Gr.make_e]
    have hcore : ∀ k, (g.remake i).core k = if k = i.id then a.core k else g.core k := by
      intro k
      unfold Gr.remake
      rw [Gr.core_setIf]
      cases hg1 : g.get i.id with
      | none =>
        have hlen := get_len hg ha hsub (by rw [hai]; rfl) hg1
        have hal := ha.len
        obtain ⟨hm, hk1, hk3⟩ := ha.kinds i hi
        have hw : g.makeWhy i.id i.kind = 0 := by
          unfold Gr.makeWhy
          rw [hm, hg1, show decide (i.kind < 1) = false by simp; omega, show decide (3 < i.kind) = false by simp; omega]
          simp; omega
        have hmk : g.make i.id i.kind = g.made i.id i.kind := by unfold Gr.make; rw [if_pos hw]
        rw [hmk, Gr.core_made g hg1]
        by_cases hk : k = i.id
        · simp only [hk, if_true]; rw [hac]; rfl
        · simp only [hk, if_false]
      | some j =>
        have hw : g.makeWhy i.id i.kind ≠ 0 := by
          intro h0
          have := (Gr.makeWhy_zero h0).2.2.2.1
          rw [hg1] at this; cases this
        have hmk : g.make i.id i.kind = g := by unfold Gr.make; rw [if_neg hw]
        rw [hmk]
        by_cases hk : k = i.id
        · simp only [hk, if_true]
          have hgc : g.core i.id = some j.core := by unfold Gr.core; rw [hg1]; rfl
          have hkk := hkind i.id _ _ hgc hac
          rw [hac, hgc]
          simp only [Option.map_some, Option.some.injEq]
          show (j.core.1, i.mode, i.data) = (i.kind, i.mode, i.data)
          rw [hkk]; rfl
        · simp only [hk, if_false]
    have hsub2 : ∀ k, ((g.remake i).get k).isSome = true → (a.get k).isSome = true := by
      intro k hk
      rw [← Gr.core_some, hcore] at hk
      split at hk
      · rw [Gr.core_some] at hk; exact hk
      · rw [Gr.core_some] at hk; exact hsub k hk
    have hkind2 : ∀ k c d, (g.remake i).core k = some c → a.core k = some d → c.1 = d.1 := by
      intro k c d h1 h2
      rw [hcore] at h1
      split at h1
      · rw [h1] at h2; cases h2; rfl
      · exact hkind k c d h1 h2
    obtain ⟨h1, h2, h3⟩ := ih hok hsub2 hkind2 (fun j hj => hl j (by simp [hj]))
    refine ⟨h1, h2.trans he, fun k => ?_⟩
    show (l.foldl Gr.remake (g.remake i)).core k = _
    rw [h3, hcore]
    simp only [List.map_cons, List.mem_cons]
    by_cases hk : k ∈ l.map (·.id)
    · simp [hk]
    · by_cases hk2 : k = i.id <;> simp [hk, hk2]
theorem tieAll {a : Gr} (ha : a.Ok) : ∀ (l : List Ent) {g : Gr}, g.Ok → (∀ k, g.core k = a.core k) → (∀ x ∈ g.e, x ∈ a.e) → (∀ x ∈ l, x ∈ a.e) → l.Nodup → (∀ x ∈ l, x ∉ g.e) →
    (l.foldl Gr.tie g).Ok ∧ (∀ k, (l.foldl Gr.tie g).core k = a.core k) ∧ ∀ x, x ∈ (l.foldl Gr.tie g).e ↔ x ∈ g.e ∨ x ∈ l := by
  intro l
  induction l with
  | nil => intro g hg hc _ _ _ _; exact ⟨hg, hc, fun x => by simp⟩
  | cons x l ih =>
    intro g hg hc he hl hnd hno
    rw [List.nodup_cons] at hnd
    have hx := hl x (by simp)
    have hxg := hno x (by simp)
    obtain ⟨hat, hin, hin0⟩ := ha.ends x hx
    have hdir : ∀ k, g.isDir k = true ↔ a.isDir k = true := fun k => by rw [Gr.core_dir, Gr.core_dir, hc]
    have hsome : ∀ k, (g.get k).isSome = (a.get k).isSome := fun k => by rw [← Gr.core_some, ← Gr.core_some, hc]
    have hpar : ∀ p q, g.parent p = some q → a.parent p = some q := by
      intro p q hp
      obtain ⟨h1, y, hy, h2, h3⟩ := Gr.parent_some hp
      exact ha.parent_iff.2 ⟨(hdir p).1 h1, y, he y hy, h2, h3⟩
    have hlook : g.look x.pl = none := by
      cases hlk : g.look x.pl with
      | none => rfl
      | some k =>
        obtain ⟨y, hy, hp, _⟩ := Gr.look_some hlk
        have := RisesK.apart strictPl ha.se (he y hy) hx hp
        rw [this] at hy
        exact absurd hy hxg
    have hcnt : g.count x.ino < a.count x.ino := by
      unfold Gr.count
      have := nodup_len (x :: g.e.filter fun y => decide (y.ino = x.ino)) (a.e.filter fun y => decide (y.ino = x.ino)) ?_ ?_
      · simp only [List.length_cons] at this; omega
      · rw [List.nodup_cons]
        exact ⟨fun hm => hxg (List.mem_filter.1 hm).1, (RisesK.nodup' strictPl hg.se).filter _⟩
      · intro y hy
        rcases List.mem_cons.1 hy with rfl | hy
        · exact List.mem_filter.2 ⟨hx, by simp⟩
        · obtain ⟨h1, h2⟩ := List.mem_filter.1 hy
          exact List.mem_filter.2 ⟨he y h1, h2⟩
    have hw : g.tieWhy x = 0 := by
      unfold Gr.tieWhy
      have hgat := (hdir x.at_).2 hat
      obtain ⟨i, hi, hik⟩ := Gr.isDir_iff.1 hgat
      have hgin : (g.get x.ino).isSome = true := by rw [hsome]; exact hin
      rw [ha.names x hx, hgin, hi, Gr.got_of hi, hik, hlook]
      have hu : ((g.got x.ino).kind == 1 && (decide (x.ino = ⟨0, 0⟩) || g.under x.at_ x.ino)) = false := by
        rw [show decide (x.ino = ⟨0, 0⟩) = false by simpa using hin0, Bool.false_or]
        cases hk : ((g.got x.ino).kind == 1) with
        | false => rfl
        | true =>
          rw [Bool.true_and, Bool.eq_false_iff]
          intro hu
          have hd : a.isDir x.ino = true := (hdir x.ino).1 (Gr.dir_iff.2 (by simpa using hk : (g.got x.ino).kind = 1))
          have hpx : a.parent x.ino = some x.at_ := ha.parent_iff.2 ⟨hd, x, hx, rfl, rfl⟩
          have hua := Gr.under_mono hpar (Gr.under_iff.1 hu)
          obtain ⟨r, hr⟩ := ha.ends_up
          have h1 := hr _ _ hpx
          have h2 := ha.under_antisymm hua (.step hpx .here)
          rw [h2] at h1
          exact absurd h1 (Nat.lt_irrefl _)
      have hroom : roomB (g.got x.ino) = true := by
        have hl1 := (hg.got_links hgin).1
        obtain ⟨hl2, hl3, hl4⟩ := ha.got_links hin
        have hm := ha.most _ hl4
        unfold roomB
        by_cases hk : (g.got x.ino).kind = 1
        · rw [if_pos hk]
          have := ha.dir_one ((hdir x.ino).1 (Gr.dir_iff.2 hk))
          rw [hl1]; simp; omega
        · rw [if_neg hk, hl1]; simp; omega
      rw [hu, hroom]; rfl
    have htie : g.tie x = g.tied x := by unfold Gr.tie; rw [if_pos hw]
    have hmem : ∀ y, y ∈ (g.tie x).e ↔ y = x ∨ y ∈ g.e := fun y => by rw [htie]; exact putIn_mem
    obtain ⟨h1, h2, h3⟩ := ih (hg.tieD x) (fun k => by rw [htie, Gr.core_tied]; exact hc k) (fun y hy => by
      rcases (hmem y).1 hy with rfl | hy
      · exact hx
      · exact he y hy) (fun y hy => hl y (by simp [hy])) hnd.2 (fun y hy hyg => by
      rcases (hmem y).1 hyg with rfl | hyg
      · exact hnd.1 hy
      · exact hno y (by simp [hy]) hyg)
    refine ⟨h1, h2, fun y => ?_⟩
    show y ∈ (l.foldl Gr.tie (g.tie x)).e ↔ _
    rw [h3, hmem]
    simp only [List.mem_cons]
    constructor
    · rintro ((rfl | h) | h)
      · exact .inr (.inl rfl)
      · exact .inl h
      · exact .inr (.inr h)
    · rintro (h | rfl | h)
      · exact .inl (.inr h)
      · exact .inl (.inl rfl)
      · exact .inr h

/-- kinds of inodes that two graphs share are the same -/
def KindsAgree (a b : Gr) : Prop := ∀ k c d, b.core k = some c → a.core k = some d → c.1 = d.1
/-- what differs, taken back, is the first graph -/
theorem back_diff {a b : Gr} (ha : a.Ok) (hb : b.Ok) (hk : KindsAgree a b) (err : Int) : b.back { diffOf a b with err := err } = a := by
  unfold Gr.back diffOf
  simp only
  obtain ⟨u1, u2, u3⟩ := untieAll hb (lostOf b a)
  generalize (lostOf b a).foldl (fun g x => g.untie x.pl) b = g1 at *
  have e1 : ∀ x, x ∈ g1.e ↔ x ∈ b.e ∧ x ∈ a.e := by
    intro x
    rw [u3]
    constructor
    · rintro ⟨h1, h2⟩
      refine ⟨h1, ?_⟩
      by_cases hxa : x ∈ a.e
      · exact hxa
      · exact absurd rfl (h2 x (mem_lost.2 ⟨h1, hxa⟩))
    · rintro ⟨h1, h2⟩
      refine ⟨h1, fun m hm hp => ?_⟩
      obtain ⟨h3, h4⟩ := mem_lost.1 hm
      rw [RisesK.apart strictPl hb.se h1 h3 hp] at h2
      exact h4 h2
  obtain ⟨d1, d2, d3⟩ := dropAll ha (newOf a b) u1 (fun x hx => ((e1 x).1 hx).2) (fun id hid => (mem_new.1 hid).2)
  generalize (newOf a b).foldl Gr.drop g1 = g2 at *
  have c2 : ∀ k, g2.core k = if (a.get k).isSome = true then b.core k else none := by
    intro k
    rw [d3, u2]
    by_cases hak : (a.get k).isSome = true
    · rw [if_pos hak, if_neg]
      intro hm
      rw [(mem_new.1 hm).2] at hak; cases hak
    · rw [if_neg hak]
      split
      · rfl
      · rename_i hm
        have han : a.get k = none := by
          cases hq : a.get k with
          | none => rfl
          | some i => rw [hq] at hak; exact absurd rfl hak
        have hbn : (b.get k).isSome = false := by
          cases hq : (b.get k).isSome with
          | false => rfl
          | true => exact absurd (mem_new.2 ⟨hq, han⟩) hm
        rw [← Gr.core_some] at hbn
        cases hq : b.core k with
        | none => rfl
        | some c => rw [hq] at hbn; cases hbn
  obtain ⟨r1, r2, r3⟩ := remakeAll ha (wasOf a b) d1 (fun k hk => by
    rw [← Gr.core_some, c2] at hk
    split at hk
    · assumption
    · cases hk) (fun k c d h1 h2 => by
    rw [c2] at h1
    split at h1
    · exact hk k c d h1 h2
    · cases h1) (fun i hi => ((mem_was hb).1 hi).1)
  generalize (wasOf a b).foldl Gr.remake g2 = g3 at *
  have c3 : ∀ k, g3.core k = a.core k := by
    intro k
    rw [r3]
    by_cases hm : k ∈ (wasOf a b).map (·.id)
    · rw [if_pos hm]
    · rw [if_neg hm, c2]
      cases hq : a.get k with
      | none => unfold Gr.core; rw [hq]; rfl
      | some i =>
        obtain ⟨h1, h2⟩ := Gr.get_some hq
        have : b.core k = some i.core := by
          by_cases hc : b.core i.id = some i.core
          · rw [← h2]; exact hc
          · exact absurd (List.mem_map.2 ⟨i, (mem_was hb).2 ⟨h1, hc⟩, h2⟩) hm
        simp only [Option.isSome_some, if_true]
        rw [this]; unfold Gr.core; rw [hq]; rfl
  have e3 : ∀ x, x ∈ g3.e ↔ x ∈ b.e ∧ x ∈ a.e := fun x => by rw [r2, d2]; exact e1 x
  obtain ⟨t1, t2, t3⟩ := tieAll ha (lostOf a b) r1 c3 (fun x hx => ((e3 x).1 hx).2) (fun x hx => (mem_lost.1 hx).1) ((RisesK.nodup' strictPl ha.se).filter _) (fun x hx hg => (mem_lost.1 hx).2 ((e3 x).1 hg).1)
  refine t1.ext ha t2 fun x => ?_
  rw [t3, e3, mem_lost]
  constructor
  · rintro (⟨_, h⟩ | ⟨h, _⟩) <;> exact h
  · intro h
    by_cases hx : x ∈ b.e
    · exact .inl ⟨hx, h⟩
    · exact .inr ⟨h, hx⟩
end Go.Proofs.YtlokljaeknmdpaaGreat
