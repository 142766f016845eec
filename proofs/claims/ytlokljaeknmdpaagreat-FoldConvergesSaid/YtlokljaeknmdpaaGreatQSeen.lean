/-
  Which inodes are reached, in plain words; no condition.
-/
import Derived.Test.YtlokljaeknmdpaaGreatKAudA
namespace Go.Proofs.YtlokljaeknmdpaaGreat

/-- an inode is reached -/
inductive Reached (n : List Ino) (e : List Ent) : St → Prop where
  | root : (kindOf n ⟨0, 0⟩).isSome = true → Reached n e ⟨0, 0⟩
  | step (x : Ent) : x ∈ e → Reached n e x.at_ → kindOf n x.at_ = some 1 → (kindOf n x.ino).isSome = true → Reached n e x.ino

def hasK (kv : List (St × Bool)) (id : St) : Bool := (getKV id kv).getD false

structure SeenOk (n : List Ino) (e : List Ent) (kv : List (St × Bool)) : Prop where
  tr : ∀ p ∈ kv, p.2 = true
  nodup : (kv.map (·.1)).Nodup
  reached : ∀ id, hasK kv id = true → Reached n e id
  root : (kindOf n ⟨0, 0⟩).isSome = true → hasK kv ⟨0, 0⟩ = true
  sub : ∀ p ∈ kv, p.1 = ⟨0, 0⟩ ∨ ∃ x ∈ e, x.ino = p.1

theorem hasK_mem : ∀ {kv : List (St × Bool)} {id : St}, (∀ p ∈ kv, p.2 = true) → (hasK kv id = true ↔ id ∈ kv.map (·.1))
  | [], id, _ => by simp [hasK, getKV]
  | (a, v) :: kv, id, h => by
    have hv : v = true := h (a, v) (by simp)
    have ih := hasK_mem (kv := kv) (id := id) (fun p hp => h p (by simp [hp]))
    unfold hasK at ih ⊢
    unfold getKV
    by_cases e : id = a
    · rw [if_pos e]; simp [hv, e]
    · rw [if_neg e, ih]; simp [e]

theorem putKV_new {K V : Type} [DecidableEq K] (k : K) (x : V) : ∀ (l : List (K × V)), k ∉ l.map (·.1) → putKV k x l = l ++ [(k, x)]
  | [], _ => rfl
  | (a, v) :: l, h => by
    simp only [List.map_cons, List.mem_cons, not_or] at h
    unfold putKV
    rw [if_neg h.1, putKV_new k x l h.2]; rfl

theorem SeenOk.put {n : List Ino} {e : List Ent} {kv : List (St × Bool)} (h : SeenOk n e kv) (x : Ent) (hx : x ∈ e) (h1 : hasK kv x.at_ = true) (h2 : kindOf n x.at_ = some 1) (h3 : (kindOf n x.ino).isSome = true) (h4 : hasK kv x.ino = false) :
    SeenOk n e (putKV x.ino true kv) ∧ (putKV x.ino true kv).length = kv.length + 1 := by
  have hn : x.ino ∉ kv.map (·.1) := fun hm => by rw [(hasK_mem h.tr).2 hm] at h4; cases h4
  rw [putKV_new _ _ _ hn]
  have htr : ∀ p ∈ kv ++ [(x.ino, true)], p.2 = true := by
    intro p hp
    rcases List.mem_append.1 hp with hp | hp
    · exact h.tr p hp
    · simp at hp; rw [hp]
  refine ⟨⟨htr, ?_, ?_, ?_, ?_⟩, by simp⟩
  · rw [List.map_append, List.nodup_append]
    refine ⟨h.nodup, by simp, ?_⟩
    intro a ha b hb
    simp at hb; subst hb
    intro e; subst e; exact hn ha
  · intro id hid
    have hm := (hasK_mem htr).1 hid
    rw [List.map_append, List.mem_append] at hm
    rcases hm with hm | hm
    · exact h.reached id ((hasK_mem h.tr).2 hm)
    · simp at hm; rw [hm]; exact .step x hx (h.reached _ h1) h2 h3
  · intro hr
    have hm := (hasK_mem h.tr).1 (h.root hr)
    exact (hasK_mem htr).2 (by rw [List.map_append]; exact List.mem_append_left _ hm)
  · intro p hp
    rcases List.mem_append.1 hp with hp | hp
    · exact h.sub p hp
    · simp at hp; rw [hp]; exact .inr ⟨x, hx, rfl⟩

theorem nodup_len {α : Type} [DecidableEq α] : ∀ (l m : List α), l.Nodup → (∀ a ∈ l, a ∈ m) → l.length ≤ m.length
  | [], _, _, _ => Nat.zero_le _
  | a :: l, m, h, hs => by
    rw [List.nodup_cons] at h
    have ha : a ∈ m := hs a (by simp)
    have ih := nodup_len l (m.erase a) h.2 (fun b hb => (List.mem_erase_of_ne (fun e : b = a => h.1 (by rw [← e]; exact hb))).2 (hs b (by simp [hb])))
    have := List.length_erase_of_mem ha
    have : 0 < m.length := List.length_pos_of_mem ha
    simp only [List.length_cons]
    omega

theorem SeenOk.len {n : List Ino} {e : List Ent} {kv : List (St × Bool)} (h : SeenOk n e kv) : kv.length ≤ e.length + 1 := by
  have hs : ∀ a ∈ kv.map (·.1), a ∈ (⟨0, 0⟩ : St) :: e.map (·.ino) := by
    intro id hid
    obtain ⟨p, hp, rfl⟩ := List.mem_map.1 hid
    rcases h.sub p hp with e0 | ⟨x, hx, e1⟩
    · rw [e0]; simp
    · exact List.mem_cons_of_mem _ (List.mem_map.2 ⟨x, hx, e1⟩)
  have := nodup_len _ _ h.nodup hs
  simpa using this

/-- nothing more is reached in one step -/
def SeenAll (n : List Ino) (e : List Ent) (kv : List (St × Bool)) : Prop := ∀ x ∈ e, hasK kv x.at_ = true → kindOf n x.at_ = some 1 → (kindOf n x.ino).isSome = true → hasK kv x.ino = true

theorem SeenOk.all {n : List Ino} {e : List Ent} {kv : List (St × Bool)} (h : SeenOk n e kv) (hc : SeenAll n e kv) (id : St) : hasK kv id = true ↔ Reached n e id := by
  refine ⟨h.reached id, fun hr => ?_⟩
  induction hr with
  | root hk => exact h.root hk
  | step x hx _ h2 h3 ih => exact hc x hx ih h2 h3
end Go.Proofs.YtlokljaeknmdpaaGreat
