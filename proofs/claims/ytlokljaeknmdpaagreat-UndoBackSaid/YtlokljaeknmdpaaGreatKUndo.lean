/-
  What one graph lost and another one got, plainly; taken back it is the first one; no condition. · What differs between graphs, plainly: what an operation turns, itself, three graphs; no condition.
-/
import Derived.Test.YtlokljaeknmdpaaGreatKOps
/-! ## UndoPl -/
namespace Go.Proofs.YtlokljaeknmdpaaGreat

/-! ### a graph is what it holds -/
def Ino.core (i : Ino) : Int × Int × ByteArray := (i.kind, i.mode, i.data)
def Gr.core (g : Gr) (id : St) : Option (Int × Int × ByteArray) := (g.get id).map Ino.core
section
variable {g h : Gr}
theorem Gr.core_some {g : Gr} {id : St} : (g.core id).isSome = (g.get id).isSome := by unfold Gr.core; rw [Option.isSome_map]
theorem Gr.core_dir {g : Gr} {id : St} : g.isDir id = true ↔ ∃ m d, g.core id = some (1, m, d) := by
  rw [Gr.isDir_iff]
  unfold Gr.core
  constructor
  · rintro ⟨i, hi, hk⟩
    exact ⟨i.mode, i.data, by rw [hi, ← hk]; rfl⟩
  · rintro ⟨m, d, hc⟩
    cases hg : g.get id with
    | none => rw [hg] at hc; cases hc
    | some i =>
      rw [hg] at hc
      simp only [Option.map_some, Option.some.injEq, Ino.core, Prod.mk.injEq] at hc
      exact ⟨i, rfl, hc.1⟩
theorem mem_of_nodup_eq {α : Type} {l m : List α} (h1 : l.Nodup) (h2 : m.Nodup) (h : ∀ a, a ∈ l ↔ a ∈ m) : l.Perm m := (List.perm_ext_iff_of_nodup h1 h2).2 h
theorem Gr.Ok.ents_eq (hg : g.Ok) (hh : h.Ok) (he : ∀ x, x ∈ g.e ↔ x ∈ h.e) : g.e = h.e :=
  RisesK.eq strictPl hg.se hh.se (mem_of_nodup_eq (RisesK.nodup' strictPl hg.se) (RisesK.nodup' strictPl hh.se) he)
theorem Gr.Ok.ext (hg : g.Ok) (hh : h.Ok) (hc : ∀ id, g.core id = h.core id) (he : ∀ x, x ∈ g.e ↔ x ∈ h.e) : g = h := by
  have e1 := hg.ents_eq hh he
  have half : ∀ {a b : Gr}, a.Ok → b.Ok → (∀ id, a.core id = b.core id) → a.e = b.e → ∀ i, i ∈ a.n → i ∈ b.n := by
    intro a b ha hb hc he i hi
    have h1 := hc i.id
    have h2 := ha.get_iff.2 ⟨hi, rfl⟩
    unfold Gr.core at h1
    rw [h2] at h1
    cases h3 : b.get i.id with
    | none => rw [h3] at h1; cases h1
    | some j =>
      rw [h3] at h1
      obtain ⟨h4, h5⟩ := Gr.get_some h3
      simp only [Option.map_some, Option.some.injEq, Ino.core, Prod.mk.injEq] at h1
      have l1 := ha.links i hi
      have l2 := hb.links j h4
      have : i = j := by
        obtain ⟨a1, a2, a3, a4, a5⟩ := i
        obtain ⟨b1, b2, b3, b4, b5⟩ := j
        simp only at h1 h5 l1 l2 ⊢
        unfold Gr.count at l1 l2
        rw [Ino.mk.injEq]
        refine ⟨h5.symm, h1.1, ?_, h1.2.1, h1.2.2⟩
        rw [l1, l2, he, h5]
      rw [this]; exact h4
  have e2 : g.n = h.n := RisesK.eq strictSt hg.sn hh.sn (mem_of_nodup_eq (RisesK.nodup' strictSt hg.sn) (RisesK.nodup' strictSt hh.sn) fun i => ⟨half hg hh hc e1 i, half hh hg (fun id => (hc id).symm) e1.symm i⟩)
  cases g; cases h
  simp only at e1 e2
  rw [e1, e2]

/-! ### what each deed does to it -/
theorem Gr.core_upd (g : Gr) (e' : List Ent) (id : St) (f : Ino → Ino) (hf : ∀ i, (f i).id = i.id) (hc : ∀ i, (f i).core = i.core) (k : St) : (⟨g.upd id f, e'⟩ : Gr).core k = g.core k := by
  unfold Gr.core
  rw [Gr.get_upd g e' id f hf k]
  split
  · cases g.get k <;> simp [hc]
  · rfl
theorem Gr.core_tied (g : Gr) (x : Ent) (k : St) : (g.tied x).core k = g.core k := Gr.core_upd g _ x.ino (moreLinks 1) (fun _ => rfl) (fun _ => rfl) k
theorem Gr.core_untied (g : Gr) (p : Pl) (id k : St) : (g.untied p id).core k = g.core k := Gr.core_upd g _ id (moreLinks (-1)) (fun _ => rfl) (fun _ => rfl) k
theorem Gr.core_dropped (g : Gr) (id k : St) : (g.dropped id).core k = if k = id then none else g.core k := by
  unfold Gr.core
  rw [Gr.get_dropped]
  split <;> rfl
theorem Gr.core_set (g : Gr) (id : St) (m : Int) (d : ByteArray) (k : St) : (g.set id m d).core k = if k = id then (g.core k).map (fun c => (c.1, m, d)) else g.core k := by
  unfold Gr.core
  rw [Gr.get_set]
  split
  · cases g.get k <;> rfl
  · rfl
theorem Gr.core_made (g : Gr) {id : St} {kind : Int} (hn : g.get id = none) (k : St) : (g.made id kind).core k = if k = id then some (kind, 0, ⟨#[]⟩) else g.core k := by
  unfold Gr.core
  rw [Gr.get_made hn]
  split <;> rfl
theorem Gr.core_untie (g : Gr) (p : Pl) (k : St) : (g.untie p).core k = g.core k := by
  unfold Gr.untie
  cases g.look p with
  | none => rfl
  | some id => exact Gr.core_untied g p id k
theorem Gr.mem_untie (g : Gr) (p : Pl) (x : Ent) : x ∈ (g.untie p).e ↔ x ∈ g.e ∧ x.pl ≠ p := by
  unfold Gr.untie
  cases hl : g.look p with
  | none =>
    constructor
    · exact fun hx => ⟨hx, Gr.look_none hl x hx⟩
    · exact fun hx => hx.1
  | some id =>
    show x ∈ g.e.filter _ ↔ _
    rw [List.mem_filter]; simp
theorem Gr.core_setIf (g : Gr) (id : St) (m : Int) (d : ByteArray) (k : St) : (g.setIf id m d).core k = if k = id then (g.core k).map (fun c => (c.1, m, d)) else g.core k := by
  unfold Gr.setIf Gr.setWhy
  cases hs : (g.get id).isSome with
  | true => exact Gr.core_set g id m d k
  | false =>
    simp only [Bool.false_eq_true, if_false, show ¬ ((3 : Int) = 0) by decide]
    split
    · rename_i hk
      have : g.core k = none := by
        have h1 := Gr.core_some (g := g) (id := k)
        rw [hk, hs] at h1
        rw [hk]
        cases hc : g.core id with
        | none => rfl
        | some c => rw [hc] at h1; cases h1
      rw [this]; rfl
    · rfl
end

/-! ### what differs -/
def sameI (x y : Ino) : Bool := decide (x.id = y.id ∧ x.core = y.core)
def alone {α : Type} (a b : List α) (s : α → α → Bool) : List α := a.filter fun x => !b.any fun y => s x y
structure Rec where
  lost : List Ent
  made : List Ent
  was : List Ino
  new : List St
  err : Int
def lostOf (a b : Gr) : List Ent := alone a.e b.e fun x y => decide (x = y)
def wasOf (a b : Gr) : List Ino := alone a.n b.n sameI
def newOf (a b : Gr) : List St := (alone b.n a.n fun x y => decide (x.id = y.id)).map (·.id)
def diffOf (a b : Gr) : Rec := ⟨lostOf a b, lostOf b a, wasOf a b, newOf a b, 0⟩
theorem mem_alone {α : Type} {a b : List α} {s : α → α → Bool} {x : α} : x ∈ alone a b s ↔ x ∈ a ∧ ∀ y ∈ b, s x y = false := by
  unfold alone
  rw [List.mem_filter]
  simp
theorem mem_lost {a b : Gr} {x : Ent} : x ∈ lostOf a b ↔ x ∈ a.e ∧ x ∉ b.e := by
  unfold lostOf
  rw [mem_alone]
  constructor
  · rintro ⟨h1, h2⟩
    exact ⟨h1, fun hx => by have := h2 x hx; simp at this⟩
  · rintro ⟨h1, h2⟩
    exact ⟨h1, fun y hy => by simpa using fun e : x = y => h2 (by rw [e]; exact hy)⟩
theorem mem_new {a b : Gr} {id : St} : id ∈ newOf a b ↔ (b.get id).isSome = true ∧ a.get id = none := by
  unfold newOf
  rw [List.mem_map]
  constructor
  · rintro ⟨i, hi, rfl⟩
    obtain ⟨h1, h2⟩ := mem_alone.1 hi
    refine ⟨Gr.isSome_iff.2 ⟨i, h1, rfl⟩, ?_⟩
    cases hg : a.get i.id with
    | none => rfl
    | some j =>
      obtain ⟨h3, h4⟩ := Gr.get_some hg
      have := h2 j h3
      simp [h4] at this
  · rintro ⟨h1, h2⟩
    obtain ⟨i, hi, rfl⟩ := Gr.isSome_iff.1 h1
    exact ⟨i, mem_alone.2 ⟨hi, fun y hy => by simpa using fun e => Gr.get_none h2 y hy e.symm⟩, rfl⟩
theorem mem_was {a b : Gr} (hb : b.Ok) {i : Ino} : i ∈ wasOf a b ↔ i ∈ a.n ∧ b.core i.id ≠ some i.core := by
  unfold wasOf
  rw [mem_alone]
  have key : (∀ y ∈ b.n, sameI i y = false) ↔ b.core i.id ≠ some i.core := by
    constructor
    · intro h hc
      unfold Gr.core at hc
      cases hg : b.get i.id with
      | none => rw [hg] at hc; cases hc
      | some j =>
        rw [hg] at hc
        obtain ⟨h3, h4⟩ := Gr.get_some hg
        have := h j h3
        unfold sameI at this
        simp only [Option.map_some, Option.some.injEq] at hc
        rw [decide_eq_false_iff_not] at this
        exact this ⟨h4.symm, hc.symm⟩
    · intro h y hy
      unfold sameI
      rw [decide_eq_false_iff_not]
      rintro ⟨h1, h2⟩
      apply h
      unfold Gr.core
      rw [hb.get_iff.2 ⟨hy, h1.symm⟩, h2]; rfl
  rw [key]

/-! ### taken back -/
def Gr.remake (g : Gr) (i : Ino) : Gr := (g.make i.id i.kind).setIf i.id i.mode i.data
noncomputable def Gr.back (g : Gr) (r : Rec) : Gr :=
  r.lost.foldl Gr.tie (r.was.foldl Gr.remake (r.new.foldl Gr.drop (r.made.foldl (fun g x => g.untie x.pl) g)))

theorem untieAll {g : Gr} (hg : g.Ok) : ∀ (l : List Ent), (l.foldl (fun g x => g.untie x.pl) g).Ok ∧ (∀ k, (l.foldl (fun g x => g.untie x.pl) g).core k = g.core k) ∧ ∀ x, x ∈ (l.foldl (fun g x => g.untie x.pl) g).e ↔ x ∈ g.e ∧ ∀ m ∈ l, x.pl ≠ m.pl := by
  intro l
  induction l generalizing g with
  | nil => exact ⟨hg, fun _ => rfl, fun x => by simp⟩
  | cons m l ih =>
    obtain ⟨h1, h2, h3⟩ := ih (hg.untieD m.pl)
    refine ⟨h1, fun k => (h2 k).trans (Gr.core_untie g m.pl k), fun x => ?_⟩
    show x ∈ (l.foldl _ (g.untie m.pl)).e ↔ _
    rw [h3, Gr.mem_untie]
    simp only [List.mem_cons, forall_eq_or_imp]
    constructor
    · rintro ⟨⟨a, b⟩, c⟩; exact ⟨a, b, c⟩
    · rintro ⟨a, b, c⟩; exact ⟨⟨a, b⟩, c⟩
theorem dropAll {a : Gr} (ha : a.Ok) : ∀ (l : List St) {g : Gr}, g.Ok → (∀ x ∈ g.e, x ∈ a.e) → (∀ id ∈ l, a.get id = none) →
    (l.foldl Gr.drop g).Ok ∧ (l.foldl Gr.drop g).e = g.e ∧ ∀ k, (l.foldl Gr.drop g).core k = if k ∈ l then none else g.core k := by
  intro l
  induction l with
  | nil => intro g hg _ _; exact ⟨hg, rfl, fun k => by simp⟩
  | cons id l ih =>
    intro g hg he hl
    have hn := hl id (by simp)
    have hstep : (g.drop id).e = g.e ∧ ∀ k, (g.drop id).core k = if k = id then none else g.core k := by
      by_cases hs : (g.get id).isSome = true
      · have hino : ∀ x ∈ g.e, x.ino ≠ id ∧ x.at_ ≠ id := fun x hx => ha.ino_ne hn (he x hx)
        have hw : g.dropWhy id = 0 := by
          unfold Gr.dropWhy
          have h0 : id ≠ ⟨0, 0⟩ := by
            intro e
            obtain ⟨i, hi, h1, _⟩ := ha.root
            exact Gr.get_none hn i hi (h1.trans e.symm)
          have hc : g.count id = 0 := by
            unfold Gr.count
            rw [List.length_eq_zero_iff, List.filter_eq_nil_iff]
            intro x hx; simpa using (hino x hx).1
          have hlist : g.list id = [] := by
            unfold Gr.list
            rw [List.filter_eq_nil_iff]
            intro x hx; simpa using (hino x hx).2
          have hl := (hg.got_links hs).1
          rw [hs, hl, hc, hlist, if_neg (by simp), if_neg h0, if_neg (by simp)]
        unfold Gr.drop
        rw [if_pos hw]
        exact ⟨rfl, Gr.core_dropped g id⟩
      · have hw : g.dropWhy id ≠ 0 := by
          unfold Gr.dropWhy
          rw [show (g.get id).isSome = false by simpa using hs]
          simp
        unfold Gr.drop
        rw [if_neg hw]
        refine ⟨rfl, fun k => ?_⟩
        split
        · rename_i hk
          have h1 := Gr.core_some (g := g) (id := id)
          rw [show (g.get id).isSome = false by simpa using hs] at h1
          rw [hk]
          cases hc : g.core id with
          | none => rfl
          | some c => rw [hc] at h1; cases h1
        · rfl
    obtain ⟨h1, h2, h3⟩ := ih (hg.dropD id) (fun x hx => he x (by rw [hstep.1] at hx; exact hx)) (fun k hk => hl k (by simp [hk]))
    refine ⟨h1, h2.trans hstep.1, fun k => ?_⟩
    show (l.foldl Gr.drop (g.drop id)).core k = _
    rw [h3, hstep.2]
    simp only [List.mem_cons]
    by_cases hk : k ∈ l
    · simp [hk]
    · by_cases hk2 : k = id <;> simp [hk, hk2]
theorem get_len {g : Gr} (hg : g.Ok) {a : Gr} (_ : a.Ok) (hsub : ∀ k, (g.get k).isSome = true → (a.get k).isSome = true) {id : St} (h1 : (a.get id).isSome = true) (h2 : g.get id = none) : g.n.length < a.n.length := by
  have hn : (id :: g.n.map (·.id)).Nodup := by
    rw [List.nodup_cons]
    refine ⟨fun hm => ?_, hg.sn.nodup strictSt⟩
    obtain ⟨i, hi, he⟩ := List.mem_map.1 hm
    exact Gr.get_none h2 i hi he
  have := nodup_len (id :: g.n.map (·.id)) (a.n.map (·.id)) hn fun k hk => by
    have : (a.get k).isSome = true := by
      rcases List.mem_cons.1 hk with rfl | hk
      · exact h1
      · obtain ⟨i, hi, rfl⟩ := List.mem_map.1 hk
        exact hsub _ (Gr.isSome_iff.2 ⟨i, hi, rfl⟩)
    obtain ⟨i, hi, he⟩ := Gr.isSome_iff.1 this
    exact List.mem_map.2 ⟨i, hi, he⟩
  simp only [List.length_cons, List.length_map] at this
  omega
theorem Gr.make_e (g : Gr) (id : St) (k : Int) : (g.make id k).e = g.e := by unfold Gr.make; split <;> rfl
theorem Gr.setIf_e (g : Gr) (id : St) (m : Int) (d : ByteArray) : (g.setIf id m d).e = g.e := by unfold Gr.setIf; split <;> rfl
theorem remakeAll {a : Gr} (ha : a.Ok) : ∀ (l : List Ino) {g : Gr}, g.Ok → (∀ k, (g.get k).isSome = true → (a.get k).isSome = true) → (∀ k c d, g.core k = some c → a.core k = some d → c.1 = d.1) → (∀ i ∈ l, i ∈ a.n) →
    (l.foldl Gr.remake g).Ok ∧ (l.foldl Gr.remake g).e = g.e ∧ ∀ k, (l.foldl Gr.remake g).core k = if k ∈ l.map (·.id) then a.core k else g.core k := by
  intro l
  induction l with
  | nil => intro g hg _ _ _; exact ⟨hg, rfl, fun k => by simp⟩
  | cons i l ih =>
    intro g hg hsub hkind hl
    have hi := hl i (by simp)
    have hai : a.get i.id = some i := ha.get_iff.2 ⟨hi, rfl⟩
    have hac : a.core i.id = some i.core := by unfold Gr.core; rw [hai]; rfl
    have hok : (g.remake i).Ok := (hg.makeD _ _).setIf _ _ _
    have he : (g.remake i).e = g.e := by unfold Gr.remake; rw [Gr.setIf_e, Gr.make_e]
    have hcore : ∀ k, (g.remake i).core k = if k = i.id then a.core k else g.core k := by
      intro k
      unfold Gr.remake
      rw [Gr.core_setIf]
      cases hg1 : g.get i.id with
      | none =>
        have hlen := get_len hg ha hsub (by rw [hai]; rfl) hg1
        have hal := ha.len
        obtain ⟨hm, hk1, hk3⟩ := ha.kinds i hi
        have hw : g.makeWhy i.id i.kind = 0 := by
          unfold Gr.makeWhy
          rw [hm, hg1, show decide (i.kind < 1) = false by simp; omega, show decide (3 < i.kind) = false by simp; omega]
          simp; omega
        have hmk : g.make i.id i.kind = g.made i.id i.kind := by unfold Gr.make; rw [if_pos hw]
        rw [hmk, Gr.core_made g hg1]
        by_cases hk : k = i.id
        · simp only [hk, if_true]; rw [hac]; rfl
        · simp only [hk, if_false]
      | some j =>
        have hw : g.makeWhy i.id i.kind ≠ 0 := by
          intro h0
          have := (Gr.makeWhy_zero h0).2.2.2.1
          rw [hg1] at this; cases this
        have hmk : g.make i.id i.kind = g := by unfold Gr.make; rw [if_neg hw]
        rw [hmk]
        by_cases hk : k = i.id
        · simp only [hk, if_true]
          have hgc : g.core i.id = some j.core := by unfold Gr.core; rw [hg1]; rfl
          have hkk := hkind i.id _ _ hgc hac
          rw [hac, hgc]
          simp only [Option.map_some, Option.some.injEq]
          show (j.core.1, i.mode, i.data) = (i.kind, i.mode, i.data)
          rw [hkk]; rfl
        · simp only [hk, if_false]
    have hsub2 : ∀ k, ((g.remake i).get k).isSome = true → (a.get k).isSome = true := by
      intro k hk
      rw [← Gr.core_some, hcore] at hk
      split at hk
      · rw [Gr.core_some] at hk; exact hk
      · rw [Gr.core_some] at hk; exact hsub k hk
    have hkind2 : ∀ k c d, (g.remake i).core k = some c → a.core k = some d → c.1 = d.1 := by
      intro k c d h1 h2
      rw [hcore] at h1
      split at h1
      · rw [h1] at h2; cases h2; rfl
      · exact hkind k c d h1 h2
    obtain ⟨h1, h2, h3⟩ := ih hok hsub2 hkind2 (fun j hj => hl j (by simp [hj]))
    refine ⟨h1, h2.trans he, fun k => ?_⟩
    show (l.foldl Gr.remake (g.remake i)).core k = _
    rw [h3, hcore]
    simp only [List.map_cons, List.mem_cons]
    by_cases hk : k ∈ l.map (·.id)
    · simp [hk]
    · by_cases hk2 : k = i.id <;> simp [hk, hk2]
theorem tieAll {a : Gr} (ha : a.Ok) : ∀ (l : List Ent) {g : Gr}, g.Ok → (∀ k, g.core k = a.core k) → (∀ x ∈ g.e, x ∈ a.e) → (∀ x ∈ l, x ∈ a.e) → l.Nodup → (∀ x ∈ l, x ∉ g.e) →
    (l.foldl Gr.tie g).Ok ∧ (∀ k, (l.foldl Gr.tie g).core k = a.core k) ∧ ∀ x, x ∈ (l.foldl Gr.tie g).e ↔ x ∈ g.e ∨ x ∈ l := by
  intro l
  induction l with
  | nil => intro g hg hc _ _ _ _; exact ⟨hg, hc, fun x => by simp⟩
  | cons x l ih =>
    intro g hg hc he hl hnd hno
    rw [List.nodup_cons] at hnd
    have hx := hl x (by simp)
    have hxg := hno x (by simp)
    obtain ⟨hat, hin, hin0⟩ := ha.ends x hx
    have hdir : ∀ k, g.isDir k = true ↔ a.isDir k = true := fun k => by rw [Gr.core_dir, Gr.core_dir, hc]
    have hsome : ∀ k, (g.get k).isSome = (a.get k).isSome := fun k => by rw [← Gr.core_some, ← Gr.core_some, hc]
    have hpar : ∀ p q, g.parent p = some q → a.parent p = some q := by
      intro p q hp
      obtain ⟨h1, y, hy, h2, h3⟩ := Gr.parent_some hp
      exact ha.parent_iff.2 ⟨(hdir p).1 h1, y, he y hy, h2, h3⟩
    have hlook : g.look x.pl = none := by
      cases hlk : g.look x.pl with
      | none => rfl
      | some k =>
        obtain ⟨y, hy, hp, _⟩ := Gr.look_some hlk
        have := RisesK.apart strictPl ha.se (he y hy) hx hp
        rw [this] at hy
        exact absurd hy hxg
    have hcnt : g.count x.ino < a.count x.ino := by
      unfold Gr.count
      have := nodup_len (x :: g.e.filter fun y => decide (y.ino = x.ino)) (a.e.filter fun y => decide (y.ino = x.ino)) ?_ ?_
      · simp only [List.length_cons] at this; omega
      · rw [List.nodup_cons]
        exact ⟨fun hm => hxg (List.mem_filter.1 hm).1, (RisesK.nodup' strictPl hg.se).filter _⟩
      · intro y hy
        rcases List.mem_cons.1 hy with rfl | hy
        · exact List.mem_filter.2 ⟨hx, by simp⟩
        · obtain ⟨h1, h2⟩ := List.mem_filter.1 hy
          exact List.mem_filter.2 ⟨he y h1, h2⟩
    have hw : g.tieWhy x = 0 := by
      unfold Gr.tieWhy
      have hgat := (hdir x.at_).2 hat
      obtain ⟨i, hi, hik⟩ := Gr.isDir_iff.1 hgat
      have hgin : (g.get x.ino).isSome = true := by rw [hsome]; exact hin
      rw [ha.names x hx, hgin, hi, Gr.got_of hi, hik, hlook]
      have hu : ((g.got x.ino).kind == 1 && (decide (x.ino = ⟨0, 0⟩) || g.under x.at_ x.ino)) = false := by
        rw [show decide (x.ino = ⟨0, 0⟩) = false by simpa using hin0, Bool.false_or]
        cases hk : ((g.got x.ino).kind == 1) with
        | false => rfl
        | true =>
          rw [Bool.true_and, Bool.eq_false_iff]
          intro hu
          have hd : a.isDir x.ino = true := (hdir x.ino).1 (Gr.dir_iff.2 (by simpa using hk : (g.got x.ino).kind = 1))
          have hpx : a.parent x.ino = some x.at_ := ha.parent_iff.2 ⟨hd, x, hx, rfl, rfl⟩
          have hua := Gr.under_mono hpar (Gr.under_iff.1 hu)
          obtain ⟨r, hr⟩ := ha.ends_up
          have h1 := hr _ _ hpx
          have h2 := ha.under_antisymm hua (.step hpx .here)
          rw [h2] at h1
          exact absurd h1 (Nat.lt_irrefl _)
      have hroom : roomB (g.got x.ino) = true := by
        have hl1 := (hg.got_links hgin).1
        obtain ⟨hl2, hl3, hl4⟩ := ha.got_links hin
        have hm := ha.most _ hl4
        unfold roomB
        by_cases hk : (g.got x.ino).kind = 1
        · rw [if_pos hk]
          have := ha.dir_one ((hdir x.ino).1 (Gr.dir_iff.2 hk))
          rw [hl1]; simp; omega
        · rw [if_neg hk, hl1]; simp; omega
      rw [hu, hroom]; rfl
    have htie : g.tie x = g.tied x := by unfold Gr.tie; rw [if_pos hw]
    have hmem : ∀ y, y ∈ (g.tie x).e ↔ y = x ∨ y ∈ g.e := fun y => by rw [htie]; exact putIn_mem
    obtain ⟨h1, h2, h3⟩ := ih (hg.tieD x) (fun k => by rw [htie, Gr.core_tied]; exact hc k) (fun y hy => by
      rcases (hmem y).1 hy with rfl | hy
      · exact hx
      · exact he y hy) (fun y hy => hl y (by simp [hy])) hnd.2 (fun y hy hyg => by
      rcases (hmem y).1 hyg with rfl | hyg
      · exact hnd.1 hy
      · exact hno y (by simp [hy]) hyg)
    refine ⟨h1, h2, fun y => ?_⟩
    show y ∈ (l.foldl Gr.tie (g.tie x)).e ↔ _
    rw [h3, hmem]
    simp only [List.mem_cons]
    constructor
    · rintro ((rfl | h) | h)
      · exact .inr (.inl rfl)
      · exact .inl h
      · exact .inr (.inr h)
    · rintro (h | rfl | h)
      · exact .inl (.inr h)
      · exact .inl (.inl rfl)
      · exact .inr h

/-- kinds of inodes that two graphs share are the same -/
def KindsAgree (a b : Gr) : Prop := ∀ k c d, b.core k = some c → a.core k = some d → c.1 = d.1
/-- what differs, taken back, is the first graph -/
theorem back_diff {a b : Gr} (ha : a.Ok) (hb : b.Ok) (hk : KindsAgree a b) (err : Int) : b.back { diffOf a b with err := err } = a := by
  unfold Gr.back diffOf
  simp only
  obtain ⟨u1, u2, u3⟩ := untieAll hb (lostOf b a)
  generalize (lostOf b a).foldl (fun g x => g.untie x.pl) b = g1 at *
  have e1 : ∀ x, x ∈ g1.e ↔ x ∈ b.e ∧ x ∈ a.e := by
    intro x
    rw [u3]
    constructor
    · rintro ⟨h1, h2⟩
      refine ⟨h1, ?_⟩
      by_cases hxa : x ∈ a.e
      · exact hxa
      · exact absurd rfl (h2 x (mem_lost.2 ⟨h1, hxa⟩))
    · rintro ⟨h1, h2⟩
      refine ⟨h1, fun m hm hp => ?_⟩
      obtain ⟨h3, h4⟩ := mem_lost.1 hm
      rw [RisesK.apart strictPl hb.se h1 h3 hp] at h2
      exact h4 h2
  obtain ⟨d1, d2, d3⟩ := dropAll ha (newOf a b) u1 (fun x hx => ((e1 x).1 hx).2) (fun id hid => (mem_new.1 hid).2)
  generalize (newOf a b).foldl Gr.drop g1 = g2 at *
  have c2 : ∀ k, g2.core k = if (a.get k).isSome = true then b.core k else none := by
    intro k
    rw [d3, u2]
    by_cases hak : (a.get k).isSome = true
    · rw [if_pos hak, if_neg]
      intro hm
      rw [(mem_new.1 hm).2] at hak; cases hak
    · rw [if_neg hak]
      split
      · rfl
      · rename_i hm
        have han : a.get k = none := by
          cases hq : a.get k with
          | none => rfl
          | some i => rw [hq] at hak; exact absurd rfl hak
        have hbn : (b.get k).isSome = false := by
          cases hq : (b.get k).isSome with
          | false => rfl
          | true => exact absurd (mem_new.2 ⟨hq, han⟩) hm
        rw [← Gr.core_some] at hbn
        cases hq : b.core k with
        | none => rfl
        | some c => rw [hq] at hbn; cases hbn
  obtain ⟨r1, r2, r3⟩ := remakeAll ha (wasOf a b) d1 (fun k hk => by
    rw [← Gr.core_some, c2] at hk
    split at hk
    · assumption
    · cases hk) (fun k c d h1 h2 => by
    rw [c2] at h1
    split at h1
    · exact hk k c d h1 h2
    · cases h1) (fun i hi => ((mem_was hb).1 hi).1)
  generalize (wasOf a b).foldl Gr.remake g2 = g3 at *
  have c3 : ∀ k, g3.core k = a.core k := by
    intro k
    rw [r3]
    by_cases hm : k ∈ (wasOf a b).map (·.id)
    · rw [if_pos hm]
    · rw [if_neg hm, c2]
      cases hq : a.get k with
      | none => unfold Gr.core; rw [hq]; rfl
      | some i =>
        obtain ⟨h1, h2⟩ := Gr.get_some hq
        have : b.core k = some i.core := by
          by_cases hc : b.core i.id = some i.core
          · rw [← h2]; exact hc
          · exact absurd (List.mem_map.2 ⟨i, (mem_was hb).2 ⟨h1, hc⟩, h2⟩) hm
        simp only [Option.isSome_some, if_true]
        rw [this]; unfold Gr.core; rw [hq]; rfl
  have e3 : ∀ x, x ∈ g3.e ↔ x ∈ b.e ∧ x ∈ a.e := fun x => by rw [r2, d2]; exact e1 x
  obtain ⟨t1, t2, t3⟩ := tieAll ha (lostOf a b) r1 c3 (fun x hx => ((e3 x).1 hx).2) (fun x hx => (mem_lost.1 hx).1) ((RisesK.nodup' strictPl ha.se).filter _) (fun x hx hg => (mem_lost.1 hx).2 ((e3 x).1 hg).1)
  refine t1.ext ha t2 fun x => ?_
  rw [t3, e3, mem_lost]
  constructor
  · rintro (⟨_, h⟩ | ⟨h, _⟩) <;> exact h
  · intro h
    by_cases hx : x ∈ b.e
    · exact .inl ⟨hx, h⟩
    · exact .inr ⟨h, hx⟩
end Go.Proofs.YtlokljaeknmdpaaGreat

/-! ## UndoLaw -/
namespace Go.Proofs.YtlokljaeknmdpaaGreat

section
variable {g : Gr}
/-- what stays of inodes' kinds where nothing is made -/
def Keeps (a b : Gr) : Prop := ∀ k c, b.core k = some c → ∃ d, a.core k = some d ∧ d.1 = c.1
theorem Keeps.refl (a : Gr) : Keeps a a := fun _ c h => ⟨c, h, rfl⟩
theorem Keeps.trans {a b c : Gr} (h1 : Keeps a b) (h2 : Keeps b c) : Keeps a c := fun k x hx => by
  obtain ⟨y, hy, e⟩ := h2 k x hx
  obtain ⟨z, hz, e'⟩ := h1 k y hy
  exact ⟨z, hz, e'.trans e⟩
theorem Keeps.of_eq {a b : Gr} (h : ∀ k, b.core k = a.core k) : Keeps a b := fun k c hc => ⟨c, (h k).symm.trans hc, rfl⟩
theorem Keeps.agree {a b : Gr} (h : Keeps a b) : KindsAgree a b := fun k c d h1 h2 => by
  obtain ⟨x, hx, e⟩ := h k c h1
  rw [h2] at hx; cases hx; exact e.symm
theorem core_tie (g : Gr) (x : Ent) (k : St) : (g.tie x).core k = g.core k := by
  unfold Gr.tie; split
  · exact Gr.core_tied g x k
  · rfl
theorem keeps_drop (g : Gr) (id : St) : Keeps g (g.drop id) := by
  unfold Gr.drop; split
  · intro k c hc
    rw [Gr.core_dropped] at hc
    split at hc
    · cases hc
    · exact ⟨c, hc, rfl⟩
  · exact Keeps.refl g
theorem keeps_gone (g : Gr) (p : Pl) : Keeps g (g.gone p) := by
  unfold Gr.gone
  cases g.look p with
  | none => exact Keeps.refl g
  | some id =>
    simp only
    split
    · exact (Keeps.of_eq (Gr.core_untie g p)).trans (keeps_drop _ _)
    · exact Keeps.of_eq (Gr.core_untie g p)
theorem keeps_setIf (g : Gr) (id : St) (m : Int) (d : ByteArray) : Keeps g (g.setIf id m d) := by
  intro k c hc
  rw [Gr.core_setIf] at hc
  split at hc
  · cases hq : g.core k with
    | none => rw [hq] at hc; cases hc
    | some x =>
      rw [hq] at hc
      simp only [Option.map_some, Option.some.injEq] at hc
      exact ⟨x, rfl, by rw [← hc]⟩
  · exact ⟨c, hc, rfl⟩
theorem Gr.Ok.apply_agree (h : g.Ok) (o : Op) : KindsAgree g (g.apply o) := by
  by_cases hw : g.opWhy o = 0
  · obtain ⟨hm, hkw⟩ := opWhy_zero hw
    rw [apply_zero hw]
    by_cases hk : o.kind = 1 ∨ o.kind = 2 ∨ o.kind = 3
    · rw [kindWhy_make hk] at hkw
      obtain ⟨hdo, hok⟩ := h.does_make hk hm hkw
      have hn := (Gr.makesWhy_zero hkw).2.2.1
      rw [hdo]
      intro k c d h1 h2
      have hG := Gr.Ok.get_put (i := ⟨o.stamp, o.kind, 1, 0, o.data⟩) hok h k
      unfold Gr.core at h1 h2
      have hG' : (g.grown o).get k = _ := hG
      rw [hG'] at h1
      split at h1
      · rename_i hks
        have hks' : k = o.stamp := hks
        rw [hks', hn] at h2; cases h2
      · rw [h1] at h2; cases h2; rfl
    · refine Keeps.agree ?_
      unfold Gr.does
      rw [if_neg hk]
      split
      · exact Keeps.of_eq (core_tie _ _)
      split
      · exact keeps_gone _ _
      split
      · unfold Gr.rename
        cases g.look ⟨o.to, o.new⟩ with
        | none => exact (Keeps.of_eq (Gr.core_untie g _)).trans (Keeps.of_eq (core_tie _ _))
        | some t =>
          simp only
          split
          · exact Keeps.refl g
          · exact ((keeps_gone _ _).trans (Keeps.of_eq (Gr.core_untie _ _))).trans (Keeps.of_eq (core_tie _ _))
      split
      · exact keeps_setIf _ _ _ _
      split
      · exact keeps_setIf _ _ _ _
      split
      · exact keeps_setIf _ _ _ _
      · exact Keeps.refl g
  · rw [apply_err hw]
    exact (Keeps.refl g).agree
/-- an operation taken back -/
theorem Gr.Ok.back_apply (h : g.Ok) (o : Op) : (g.apply o).back { diffOf g (g.apply o) with err := g.opWhy o } = g := back_diff h (h.apply o) (h.apply_agree o) _

/-! ### a graph and itself -/
theorem lost_self (a : Gr) : lostOf a a = [] := by
  rw [List.eq_nil_iff_forall_not_mem]; intro x hx
  exact (mem_lost.1 hx).2 (mem_lost.1 hx).1
theorem was_self {a : Gr} (ha : a.Ok) : wasOf a a = [] := by
  rw [List.eq_nil_iff_forall_not_mem]; intro i hi
  obtain ⟨h1, h2⟩ := (mem_was ha).1 hi
  apply h2
  unfold Gr.core; rw [ha.get_iff.2 ⟨h1, rfl⟩]; rfl
theorem new_self (a : Gr) : newOf a a = [] := by
  rw [List.eq_nil_iff_forall_not_mem]; intro k hk
  obtain ⟨h1, h2⟩ := mem_new.1 hk
  rw [h2] at h1; cases h1
theorem filter_le {α : Type} {p q : α → Bool} : ∀ (l : List α), (∀ a ∈ l, p a = true → q a = true) → (l.filter p).length ≤ (l.filter q).length
  | [], _ => Nat.le_refl _
  | a :: l, h => by
    have ih := filter_le l fun b hb => h b (List.mem_cons_of_mem _ hb)
    have ha := h a List.mem_cons_self
    rw [List.filter_cons, List.filter_cons]
    cases hp : p a with
    | true => rw [ha hp]; simpa using ih
    | false =>
      cases hq : q a with
      | true => simp; omega
      | false => simpa using ih
theorem new_le_was (a b : Gr) : (newOf a b).length ≤ (wasOf b a).length := by
  unfold newOf wasOf alone
  rw [List.length_map]
  refine filter_le _ fun i _ h => ?_
  rw [Bool.not_eq_true', List.any_eq_false] at h ⊢
  intro y hy
  have := h y hy
  unfold sameI
  simp only [decide_eq_true_eq] at this ⊢
  exact fun e => this e.1
/-- three graphs -/
theorem lost_three (a b c : Gr) {x : Ent} (h : x ∈ lostOf a c) : x ∈ lostOf a b ∨ x ∈ lostOf b c := by
  obtain ⟨h1, h2⟩ := mem_lost.1 h
  by_cases hb : x ∈ b.e
  · exact .inr (mem_lost.2 ⟨hb, h2⟩)
  · exact .inl (mem_lost.2 ⟨h1, hb⟩)

/-! ### how much an operation turns -/
theorem len_le_one {α : Type} [DecidableEq α] {l : List α} {x : α} (h1 : l.Nodup) (h2 : ∀ a ∈ l, a = x) : l.length ≤ 1 := nodup_len l [x] h1 fun a ha => by rw [h2 a ha]; simp
theorem len_le_two {α : Type} [DecidableEq α] {l : List α} {x y : α} (h1 : l.Nodup) (h2 : ∀ a ∈ l, a = x ∨ a = y) : l.length ≤ 2 := nodup_len l [x, y] h1 fun a ha => by
  rcases h2 a ha with e | e <;> simp [e]
theorem Gr.Ok.lost_nodup (h : g.Ok) (b : Gr) : (lostOf g b).Nodup := (RisesK.nodup' strictPl h.se).filter _
theorem Gr.Ok.was_nodup (h : g.Ok) (b : Gr) : (wasOf g b).Nodup := (RisesK.nodup' strictSt h.sn).filter _
theorem Gr.Ok.new_nodup {a : Gr} (h : g.Ok) : (newOf a g).Nodup := by
  unfold newOf
  have : ((alone g.n a.n fun x y => decide (x.id = y.id)).map (·.id)).Sublist (g.n.map (·.id)) := List.filter_sublist.map _
  exact (h.sn.nodup strictSt).sublist this
structure Turned (g g' : Gr) (src dst : Pl) (x : Ent) (k : St) : Prop where
  gone : ∀ y ∈ g.e, y ∉ g'.e → y.pl = src ∨ y.pl = dst
  came : ∀ y ∈ g'.e, y ∉ g.e → y = x
  core : ∀ j, j ≠ k → g'.core j = g.core j
theorem Turned.few {g g' : Gr} {src dst : Pl} {x : Ent} {k : St} (h : Turned g g' src dst x k) (hg : g.Ok) (hg' : g'.Ok) : (lostOf g g').length ≤ 2 ∧ (lostOf g' g).length ≤ 1 ∧ (newOf g g').length ≤ 1 ∧ (wasOf g g').length ≤ 1 := by
  refine ⟨?_, ?_, ?_, ?_⟩
  · have h1 := nodup_len ((lostOf g g').map Ent.pl) [src, dst] ?_ ?_
    · simpa using h1
    · have : ((lostOf g g').map Ent.pl).Sublist (g.e.map Ent.pl) := List.filter_sublist.map _
      exact (hg.se.nodup strictPl).sublist this
    · intro p hp
      obtain ⟨y, hy, rfl⟩ := List.mem_map.1 hp
      obtain ⟨h1, h2⟩ := mem_lost.1 hy
      rcases h.gone y h1 h2 with e | e <;> simp [e]
  · exact len_le_one (hg'.lost_nodup g) fun y hy => by
      obtain ⟨h1, h2⟩ := mem_lost.1 hy
      exact h.came y h1 h2
  · refine len_le_one (x := k) hg'.new_nodup fun j hj => ?_
    obtain ⟨h1, h2⟩ := mem_new.1 hj
    by_cases hjk : j = k
    · exact hjk
    · have := h.core j hjk
      rw [← Gr.core_some, this, Gr.core_some, h2] at h1; cases h1
  · have h1 := nodup_len ((wasOf g g').map (·.id)) [k] ?_ ?_
    · simpa using h1
    · have : ((wasOf g g').map (·.id)).Sublist (g.n.map (·.id)) := List.filter_sublist.map _
      exact (hg.sn.nodup strictSt).sublist this
    · intro p hp
      obtain ⟨i, hi, rfl⟩ := List.mem_map.1 hp
      obtain ⟨h1, h2⟩ := (mem_was hg').1 hi
      by_cases hjk : i.id = k
      · simp [hjk]
      · exfalso
        apply h2
        rw [h.core _ hjk]
        unfold Gr.core; rw [hg.get_iff.2 ⟨h1, rfl⟩]; rfl
theorem mem_drop (g : Gr) (id : St) : (g.drop id).e = g.e := by unfold Gr.drop; split <;> rfl
theorem mem_gone (g : Gr) (p : Pl) (x : Ent) : x ∈ (g.gone p).e ↔ x ∈ g.e ∧ x.pl ≠ p := by
  unfold Gr.gone
  cases hl : g.look p with
  | none => exact ⟨fun hx => ⟨hx, Gr.look_none hl x hx⟩, fun hx => hx.1⟩
  | some id =>
    simp only
    split
    · rw [mem_drop]; exact Gr.mem_untie g p x
    · exact Gr.mem_untie g p x
theorem mem_tie {g : Gr} {x y : Ent} (h : y ∈ (g.tie x).e) : y = x ∨ y ∈ g.e := by
  unfold Gr.tie at h
  split at h
  · exact putIn_mem.1 h
  · exact .inr h
theorem mem_tie_of {g : Gr} {x y : Ent} (h : y ∈ g.e) : y ∈ (g.tie x).e := by
  unfold Gr.tie; split
  · exact putIn_mem.2 (.inr h)
  · exact h
theorem core_gone (g : Gr) {p : Pl} {id : St} (hl : g.look p = some id) {j : St} (hj : j ≠ id) : (g.gone p).core j = g.core j := by
  unfold Gr.gone
  rw [hl]
  simp only
  split
  · unfold Gr.drop; split
    · rw [Gr.core_dropped, if_neg hj]; exact Gr.core_untie g p j
    · exact Gr.core_untie g p j
  · exact Gr.core_untie g p j
/-- what an operation turns is little -/
theorem Gr.Ok.turned (h : g.Ok) (o : Op) : ∃ src dst x k, Turned g (g.apply o) src dst x k := by
  by_cases hw : g.opWhy o = 0
  · obtain ⟨hm, hkw⟩ := opWhy_zero hw
    by_cases hk : o.kind = 1 ∨ o.kind = 2 ∨ o.kind = 3
    · rw [kindWhy_make hk] at hkw
      obtain ⟨hdo, hok⟩ := h.does_make hk hm hkw
      rw [apply_zero hw, hdo]
      refine ⟨⟨o.at_, o.name⟩, ⟨o.at_, o.name⟩, ⟨o.at_, o.name, o.stamp⟩, o.stamp, fun y hy hn => absurd (putIn_mem.2 (.inr hy)) hn, fun y hy hn => ?_, fun j hj => ?_⟩
      · rcases putIn_mem.1 hy with rfl | hy
        · rfl
        · exact absurd hy hn
      · have hG : (g.grown o).get j = _ := Gr.Ok.get_put (i := ⟨o.stamp, o.kind, 1, 0, o.data⟩) hok h j
        unfold Gr.core
        rw [hG, if_neg hj]
    · rw [apply_zero hw]
      unfold Gr.does
      rw [if_neg hk]
      split
      · refine ⟨⟨o.at_, o.name⟩, ⟨o.at_, o.name⟩, ⟨o.at_, o.name, o.ino⟩, o.ino, fun y hy hn => absurd (mem_tie_of hy) hn, fun y hy hn => ?_, fun j _ => core_tie _ _ _⟩
        rcases mem_tie hy with e | hy
        · exact e
        · exact absurd hy hn
      split
      · rename_i _ h56
        have hl : g.look ⟨o.at_, o.name⟩ = some o.ino := by
          rcases h56 with h5 | h6
          · rw [kindWhy_unlink h5] at hkw; exact (Gr.unlinksWhy_zero hkw).1
          · rw [kindWhy_rmdir h6] at hkw; exact (Gr.rmdirsWhy_zero hkw).1
        refine ⟨⟨o.at_, o.name⟩, ⟨o.at_, o.name⟩, ⟨o.at_, o.name, o.ino⟩, o.ino, fun y hy hn => ?_, fun y hy hn => absurd ((mem_gone _ _ _).1 hy).1 hn, fun j hj => core_gone g hl hj⟩
        by_cases hp : y.pl = ⟨o.at_, o.name⟩
        · exact .inl hp
        · exact absurd ((mem_gone _ _ _).2 ⟨hy, hp⟩) hn
      split
      · unfold Gr.rename
        cases hl : g.look ⟨o.to, o.new⟩ with
        | none =>
          refine ⟨⟨o.at_, o.name⟩, ⟨o.to, o.new⟩, ⟨o.to, o.new, o.ino⟩, o.ino, fun y hy hn => ?_, fun y hy hn => ?_, fun j _ => (core_tie _ _ _).trans (Gr.core_untie _ _ _)⟩
          · by_cases hp : y.pl = ⟨o.at_, o.name⟩
            · exact .inl hp
            · exact absurd (mem_tie_of ((Gr.mem_untie _ _ _).2 ⟨hy, hp⟩)) hn
          · rcases mem_tie hy with e | hy
            · exact e
            · exact absurd ((Gr.mem_untie _ _ _).1 hy).1 hn
        | some t =>
          simp only
          split
          · exact ⟨⟨o.at_, o.name⟩, ⟨o.to, o.new⟩, ⟨o.to, o.new, o.ino⟩, o.ino, fun y hy hn => absurd hy hn, fun y hy hn => absurd hy hn, fun j _ => rfl⟩
          · refine ⟨⟨o.at_, o.name⟩, ⟨o.to, o.new⟩, ⟨o.to, o.new, o.ino⟩, t, fun y hy hn => ?_, fun y hy hn => ?_, fun j hj => ((core_tie _ _ _).trans (Gr.core_untie _ _ _)).trans (core_gone g hl hj)⟩
            · by_cases hp : y.pl = ⟨o.at_, o.name⟩
              · exact .inl hp
              · by_cases hq : y.pl = ⟨o.to, o.new⟩
                · exact .inr hq
                · exact absurd (mem_tie_of ((Gr.mem_untie _ _ _).2 ⟨(mem_gone _ _ _).2 ⟨hy, hq⟩, hp⟩)) hn
            · rcases mem_tie hy with e | hy
              · exact e
              · exact absurd ((mem_gone _ _ _).1 ((Gr.mem_untie _ _ _).1 hy).1).1 hn
      all_goals try split
      all_goals try split
      all_goals try split
      all_goals refine ⟨⟨o.at_, o.name⟩, ⟨o.at_, o.name⟩, ⟨o.at_, o.name, o.ino⟩, o.ino, fun y hy hn => ?_, fun y hy hn => ?_, fun j hj => ?_⟩
      all_goals first
        | (rw [Gr.core_setIf, if_neg hj])
        | rfl
        | (rw [Gr.setIf_e] at hn; exact absurd hy hn)
        | (rw [Gr.setIf_e] at hy; exact absurd hy hn)
        | exact absurd hy hn
  · rw [apply_err hw]
    exact ⟨⟨o.at_, o.name⟩, ⟨o.at_, o.name⟩, ⟨o.at_, o.name, o.ino⟩, o.ino, fun y hy hn => absurd hy hn, fun y hy hn => absurd hy hn, fun j _ => rfl⟩

theorem Gr.Ok.few_law (h : g.Ok) (o : Op) : (lostOf g (g.apply o)).length ≤ 2 ∧ (lostOf (g.apply o) g).length ≤ 1 ∧ (newOf g (g.apply o)).length ≤ 1 ∧ (wasOf g (g.apply o)).length ≤ 1 := by
  obtain ⟨src, dst, x, k, ht⟩ := h.turned o
  exact ht.few h (h.apply o)
theorem none_law (h : g.Ok) {o : Op} (hw : g.opWhy o ≠ 0) : lostOf g (g.apply o) = [] ∧ lostOf (g.apply o) g = [] ∧ newOf g (g.apply o) = [] ∧ wasOf g (g.apply o) = [] := by
  rw [apply_err hw]; exact ⟨lost_self g, lost_self g, new_self g, was_self h⟩
theorem Gr.Ok.few_data (h : g.Ok) {o : Op} (hk : 8 ≤ o.kind) : lostOf g (g.apply o) = [] ∧ lostOf (g.apply o) g = [] ∧ newOf g (g.apply o) = [] := by
  by_cases hw : g.opWhy o = 0
  · obtain ⟨_, hset⟩ := data_is hk hw
    rw [hset]
    refine ⟨?_, ?_, ?_⟩
    · rw [List.eq_nil_iff_forall_not_mem]; intro x hx; exact (mem_lost.1 hx).2 (mem_lost.1 hx).1
    · rw [List.eq_nil_iff_forall_not_mem]; intro x hx; exact (mem_lost.1 hx).2 (mem_lost.1 hx).1
    · rw [List.eq_nil_iff_forall_not_mem]; intro k hk
      obtain ⟨h1, h2⟩ := mem_new.1 hk
      rw [Gr.get_set] at h1
      split at h1
      · rw [h2] at h1; cases h1
      · rw [h2] at h1; cases h1
  · obtain ⟨a, b, c, _⟩ := none_law h hw
    exact ⟨a, b, c⟩
theorem Gr.Ok.few_make (h : g.Ok) {o : Op} (hk : o.kind = 1 ∨ o.kind = 2 ∨ o.kind = 3) (hw : g.opWhy o = 0) : newOf g (g.apply o) = [o.stamp] ∧ (lostOf (g.apply o) g).length = 1 ∧ lostOf g (g.apply o) = [] ∧ wasOf g (g.apply o) = [] := by
  obtain ⟨hm, hkw⟩ := opWhy_zero hw
  rw [kindWhy_make hk] at hkw
  obtain ⟨hdo, hok⟩ := h.does_make hk hm hkw
  obtain ⟨hd, hl, hn, hlen⟩ := Gr.makesWhy_zero hkw
  obtain ⟨_, f2, f3, _⟩ := h.few_law o
  rw [apply_zero hw, hdo] at f2 f3 ⊢
  have hG : ∀ j, (g.grown o).get j = if j = o.stamp then some ⟨o.stamp, o.kind, 1, 0, o.data⟩ else g.get j := Gr.Ok.get_put (i := ⟨o.stamp, o.kind, 1, 0, o.data⟩) hok h
  refine ⟨?_, ?_, ?_, ?_⟩
  · have hmem : o.stamp ∈ newOf g (g.grown o) := mem_new.2 ⟨by rw [hG, if_pos rfl]; rfl, hn⟩
    match hq : newOf g (g.grown o), f3 with
    | [], _ => rw [hq] at hmem; cases hmem
    | [z], _ => rw [hq] at hmem; rw [List.mem_singleton.1 hmem]
    | _ :: _ :: _, hh => simp at hh
  · have : 0 < (lostOf (g.grown o) g).length := List.length_pos_of_mem (mem_lost.2 ⟨putIn_mem.2 (.inl rfl), fun hx => Gr.look_none hl _ hx rfl⟩)
    omega
  · rw [List.eq_nil_iff_forall_not_mem]; intro x hx
    obtain ⟨h1, h2⟩ := mem_lost.1 hx
    exact h2 (putIn_mem.2 (.inr h1))
  · rw [List.eq_nil_iff_forall_not_mem]; intro i hi
    obtain ⟨h1, h2⟩ := (mem_was hok).1 hi
    apply h2
    have hne : i.id ≠ o.stamp := Gr.get_none hn i h1
    unfold Gr.core
    rw [hG, if_neg hne, h.get_iff.2 ⟨h1, rfl⟩]; rfl
end
end Go.Proofs.YtlokljaeknmdpaaGreat
