/-
  Paths, plainly: a path's parts, where it leads, a directory's home; no condition.
-/
import Derived.Test.YtfbjiaedfmdcfaaGreatDoorKY4
import Derived.Lib.Join
/-! ## PathPl -/
namespace Go.Proofs.YtfbjiaedfmdcfaaGreatDoor

/-! ### parts -/
def bsOf (l : List UInt8) : ByteArray := ⟨l.toArray⟩
theorem bsOf_data (l : List UInt8) : (bsOf l).data.toList = l := by simp [bsOf]
theorem bsOf_of (s : ByteArray) : bsOf s.data.toList = s := by unfold bsOf; rw [Array.toArray_toList]
theorem bsOf_size (l : List UInt8) : (bsOf l).size = l.length := by simp [bsOf, ByteArray.size]
theorem size_data (s : ByteArray) : s.size = s.data.toList.length := Array.length_toList.symm

/-- what stands between slashes -/
def cutS : List UInt8 → List (List UInt8)
  | [] => [[]]
  | c :: l => if c = 47 then [] :: cutS l else match cutS l with
    | [] => [[c]]
    | x :: r => (c :: x) :: r
theorem cutS_cons (c : UInt8) (l : List UInt8) : cutS (c :: l) = if c = 47 then [] :: cutS l else match cutS l with | [] => [[c]] | x :: r => (c :: x) :: r := rfl
theorem cutS_ne (l : List UInt8) : cutS l ≠ [] := by
  cases l with
  | nil => simp [cutS]
  | cons c l =>
    unfold cutS
    split
    · simp
    · split <;> simp
theorem cutS_app (a : List UInt8) (ha : 47 ∉ a) (l : List UInt8) : ∃ x r, cutS l = x :: r ∧ cutS (a ++ l) = (a ++ x) :: r := by
  induction a with
  | nil =>
    cases h : cutS l with
    | nil => exact absurd h (cutS_ne l)
    | cons x r => exact ⟨x, r, rfl, by simpa using h⟩
  | cons c a ih =>
    obtain ⟨x, r, h1, h2⟩ := ih (fun h => ha (List.mem_cons_of_mem _ h))
    refine ⟨x, r, h1, ?_⟩
    have hc : c ≠ 47 := fun h => ha (by rw [h]; exact List.mem_cons_self)
    rw [List.cons_append, cutS, if_neg hc, h2]
    rfl
theorem cutS_none {a : List UInt8} (ha : 47 ∉ a) : cutS a = [a] := by
  obtain ⟨x, r, h1, h2⟩ := cutS_app a ha []
  simp only [cutS, List.cons.injEq] at h1
  obtain ⟨rfl, rfl⟩ := h1
  simpa using h2
theorem cutS_slash (l : List UInt8) : cutS (47 :: l) = [] :: cutS l := by simp [cutS]
theorem cutS_at {a : List UInt8} (ha : 47 ∉ a) (l : List UInt8) : cutS (a ++ 47 :: l) = a :: cutS l := by
  obtain ⟨x, r, h1, h2⟩ := cutS_app a ha (47 :: l)
  rw [cutS_slash] at h1
  simp only [List.cons.injEq] at h1
  obtain ⟨rfl, rfl⟩ := h1
  simpa using h2
theorem cutS_mid : ∀ (l m : List UInt8), cutS (l ++ 47 :: m) = cutS l ++ cutS m
  | [], m => by simp [cutS]
  | c :: l, m => by
    rw [List.cons_append, cutS_cons, cutS_cons, cutS_mid l m]
    by_cases hc : c = 47
    · rw [if_pos hc, if_pos hc]; rfl
    · rw [if_neg hc, if_neg hc]
      cases h : cutS l with
      | nil => exact absurd h (cutS_ne l)
      | cons x r => rfl
theorem cutS_no47 : ∀ (l : List UInt8), ∀ x ∈ cutS l, 47 ∉ x
  | [], x, hx => by rw [cutS, List.mem_singleton] at hx; rw [hx]; simp
  | c :: l, x, hx => by
    unfold cutS at hx
    have ih := cutS_no47 l
    by_cases hc : c = 47
    · rw [if_pos hc] at hx
      rcases List.mem_cons.1 hx with h | h
      · rw [h]; simp
      · exact ih x h
    · rw [if_neg hc] at hx
      cases h : cutS l with
      | nil => exact absurd h (cutS_ne l)
      | cons y r =>
        rw [h] at hx ih
        rcases List.mem_cons.1 hx with h | h
        · rw [h, List.mem_cons, not_or]
          exact ⟨fun e => hc e.symm, ih y List.mem_cons_self⟩
        · exact ih x (List.mem_cons_of_mem _ h)
theorem cutS_sub : ∀ (l : List UInt8), ∀ x ∈ cutS l, ∀ b ∈ x, b ∈ l
  | [], x, hx, b, hb => by rw [cutS, List.mem_singleton] at hx; rw [hx] at hb; cases hb
  | c :: l, x, hx, b, hb => by
    unfold cutS at hx
    have ih := cutS_sub l
    by_cases hc : c = 47
    · rw [if_pos hc] at hx
      rcases List.mem_cons.1 hx with h | h
      · rw [h] at hb; cases hb
      · exact List.mem_cons_of_mem _ (ih x h b hb)
    · rw [if_neg hc] at hx
      cases h : cutS l with
      | nil => exact absurd h (cutS_ne l)
      | cons y r =>
        rw [h] at hx ih
        rcases List.mem_cons.1 hx with h | h
        · rw [h] at hb
          rcases List.mem_cons.1 hb with h2 | h2
          · rw [h2]; exact List.mem_cons_self
          · exact List.mem_cons_of_mem _ (ih y List.mem_cons_self b h2)
        · exact List.mem_cons_of_mem _ (ih x (List.mem_cons_of_mem _ h) b hb)
theorem cutS_len : ∀ (l : List UInt8), (cutS l).length ≤ l.length + 1
  | [] => by simp [cutS]
  | c :: l => by
    have ih := cutS_len l
    unfold cutS
    by_cases hc : c = 47
    · rw [if_pos hc]; simp only [List.length_cons]; omega
    · rw [if_neg hc]
      cases h : cutS l with
      | nil => simp
      | cons y r => rw [h] at ih; simp only [List.length_cons] at ih ⊢; omega

def goodPart (x : List UInt8) : Bool := !(x == []) && !(x == [46])
def partsL (l : List UInt8) : List (List UInt8) := (cutS l).filter goodPart
def partsOf (p : ByteArray) : List ByteArray := (partsL p.data.toList).map bsOf
def longPart (s : ByteArray) : Bool := decide (8 < s.size)
def splitWhy (p : ByteArray) : Int := if p.size = 0 then 3 else if decide (128 < p.size) || (partsOf p).any longPart then 10 else if hasNul p then 1 else 0

theorem splitWhy_zero {p : ByteArray} (h : splitWhy p = 0) : p.size ≠ 0 ∧ p.size ≤ 128 ∧ (∀ x ∈ partsOf p, x.size ≤ 8) ∧ hasNul p = false := by
  unfold splitWhy at h
  split at h
  · cases h
  · rename_i h1
    split at h
    · cases h
    · rename_i h2
      split at h
      · cases h
      · rename_i h3
        simp only [Bool.or_eq_true, decide_eq_true_eq, not_or, Bool.not_eq_true] at h2 h3
        refine ⟨h1, by omega, fun x hx => ?_, h3⟩
        have := List.any_eq_false.1 h2.2 x hx
        unfold longPart at this
        simpa using this
theorem splitWhy_of {p : ByteArray} (h1 : p.size ≠ 0) (h2 : p.size ≤ 128) (h3 : ∀ x ∈ partsOf p, x.size ≤ 8) (h4 : hasNul p = false) : splitWhy p = 0 := by
  unfold splitWhy
  rw [if_neg h1, decide_eq_false (show ¬ 128 < p.size by omega), List.any_eq_false.2 (fun x hx => by unfold longPart; have := h3 x hx; simpa using this), h4]
  rfl
theorem partsL_good {l x : List UInt8} (h : x ∈ partsL l) : x ≠ [] ∧ x ≠ [46] ∧ 47 ∉ x ∧ ∀ b ∈ x, b ∈ l := by
  unfold partsL at h
  obtain ⟨h1, h2⟩ := List.mem_filter.1 h
  unfold goodPart at h2
  simp only [Bool.and_eq_true, Bool.not_eq_true', beq_eq_false_iff_ne] at h2
  exact ⟨h2.1, h2.2, cutS_no47 _ _ h1, cutS_sub _ _ h1⟩
theorem goodPart_of {x : List UInt8} (h1 : x ≠ []) (h2 : x ≠ [46]) : goodPart x = true := by
  unfold goodPart
  simp [h1, h2]
theorem partsOf_len (p : ByteArray) : (partsOf p).length ≤ p.size + 1 := by
  unfold partsOf partsL
  rw [List.length_map, size_data]
  exact Nat.le_trans (List.length_filter_le _ _) (cutS_len _)

/-- texts with slashes between -/
theorem cutS_join : ∀ (l : List (List UInt8)), l ≠ [] → (∀ x ∈ l, 47 ∉ x) → cutS (Lib.join l [47]) = l
  | [], h, _ => absurd rfl h
  | [x], _, h => by rw [Lib.join_one]; exact cutS_none (h x List.mem_cons_self)
  | x :: y :: r, _, h => by
    have ih := cutS_join (y :: r) (by simp) fun z hz => h z (List.mem_cons_of_mem _ hz)
    have e : Lib.join (x :: y :: r) [47] = x ++ 47 :: Lib.join (y :: r) [47] := by
      rw [Lib.join_cons, Lib.join_cons]
      simp [Lib.joinTail]
    rw [e, cutS_at (h x List.mem_cons_self), ih]
theorem parts_join {l : List (List UInt8)} (h : ∀ x ∈ l, 47 ∉ x ∧ goodPart x = true) : partsL (47 :: Lib.join l [47]) = l := by
  unfold partsL
  rw [cutS_slash, List.filter_cons, if_neg (by simp [goodPart])]
  cases l with
  | nil => simp [Lib.join_nil, cutS, goodPart]
  | cons x r =>
    rw [cutS_join _ (by simp) fun y hy => (h y hy).1, List.filter_eq_self.2 fun y hy => (h y hy).2]

/-! ### slashes and points more -/
/-! ### where a path leads -/
structure Spot where
  at_ : St
  name : ByteArray
  ino : St
  there : Bool
def spot0 : Spot := ⟨⟨0, 0⟩, ⟨#[]⟩, ⟨0, 0⟩, false⟩
def isRooted (p : ByteArray) : Bool := Lib.hasPrefix p.data.toList [47]
def startAt (at_ : St) (p : ByteArray) : Spot := ⟨⟨0, 0⟩, ⟨#[]⟩, if isRooted p then ⟨0, 0⟩ else at_, true⟩
def upName : ByteArray := ⟨#[46, 46]⟩

section
variable (g : Gr)
def Gr.isLink (s : Spot) : Bool := (g.get s.ino).isSome && (s.there && (g.got s.ino).kind == 3)
def Gr.stepWhy (s : Spot) : Int := if !s.there then 3 else if (g.got s.ino).kind != 1 then 6 else 0
def Gr.stepTo (s : Spot) (name : ByteArray) : Spot :=
  if name.data.toList = [46, 46] then ⟨⟨0, 0⟩, ⟨#[]⟩, (g.parent s.ino).getD ⟨0, 0⟩, true⟩ else ⟨s.ino, name, (g.look ⟨s.ino, name⟩).getD ⟨0, 0⟩, (g.look ⟨s.ino, name⟩).isSome⟩
def Gr.goN (fol : Bool) : Nat → Spot → List ByteArray → Nat → Spot × Int
  | 0, _, _, _ => (spot0, 0)
  | n + 1, s, r, k =>
    if g.isLink s && (fol || !r.isEmpty) then
      if 40 < k + 1 then (spot0, 9)
      else if splitWhy (g.got s.ino).data ≠ 0 then (spot0, splitWhy (g.got s.ino).data)
      else Gr.goN fol n (startAt s.at_ (g.got s.ino).data) (partsOf (g.got s.ino).data ++ r) (k + 1)
    else match r with
      | [] => (s, 0)
      | name :: r' => if g.stepWhy s ≠ 0 then (spot0, g.stepWhy s) else Gr.goN fol n (g.stepTo s name) r' k
theorem Gr.goN_succ (fol : Bool) (n : Nat) (s : Spot) (r : List ByteArray) (k : Nat) : g.goN fol (n + 1) s r k =
    if g.isLink s && (fol || !r.isEmpty) then
      if 40 < k + 1 then (spot0, 9)
      else if splitWhy (g.got s.ino).data ≠ 0 then (spot0, splitWhy (g.got s.ino).data)
      else g.goN fol n (startAt s.at_ (g.got s.ino).data) (partsOf (g.got s.ino).data ++ r) (k + 1)
    else match r with
      | [] => (s, 0)
      | name :: r' => if g.stepWhy s ≠ 0 then (spot0, g.stepWhy s) else g.goN fol n (g.stepTo s name) r' k := by cases r <;> rfl
def fuelOf (r : List ByteArray) (k : Nat) : Nat := (41 - k) * 200 + r.length + 1
def Gr.goes (fol : Bool) (s : Spot) (r : List ByteArray) (k : Nat) : Spot × Int := g.goN fol (fuelOf r k) s r k
def Gr.findP (at_ : St) (p : ByteArray) (fol : Bool) : Spot × Int :=
  if splitWhy p ≠ 0 then (spot0, splitWhy p) else if !(g.get at_).isSome then (spot0, 3) else g.goes fol (startAt at_ p) (partsOf p) 0
end

theorem fuel_link {r : List ByteArray} {k : Nat} {d : ByteArray} (h : splitWhy d = 0) (hk : ¬ 40 < k + 1) : fuelOf (partsOf d ++ r) (k + 1) < fuelOf r k := by
  have h1 := partsOf_len d
  have h2 := (splitWhy_zero h).2.1
  unfold fuelOf
  rw [List.length_append]
  omega
theorem fuel_step {name : ByteArray} {r : List ByteArray} {k : Nat} : fuelOf r k < fuelOf (name :: r) k := by
  unfold fuelOf
  rw [List.length_cons]
  omega
theorem Gr.goN_fuel (g : Gr) (fol : Bool) : ∀ (n m : Nat) (s : Spot) (r : List ByteArray) (k : Nat), fuelOf r k ≤ n → fuelOf r k ≤ m → g.goN fol n s r k = g.goN fol m s r k
  | 0, m, s, r, k, h, _ => by unfold fuelOf at h; omega
  | n + 1, 0, s, r, k, _, h => by unfold fuelOf at h; omega
  | n + 1, m + 1, s, r, k, h1, h2 => by
    rw [Gr.goN_succ, Gr.goN_succ]
    split
    · split
      · rfl
      · rename_i hk
        split
        · rfl
        · rename_i hd
          have := fuel_link (r := r) (Decidable.not_not.1 hd) hk
          exact Gr.goN_fuel g fol n m _ _ _ (by omega) (by omega)
    · cases r with
      | nil => rfl
      | cons name r' =>
        dsimp only
        split
        · rfl
        · have := fuel_step (name := name) (r := r') (k := k)
          exact Gr.goN_fuel g fol n m _ _ _ (by omega) (by omega)
/-- one round -/
theorem Gr.goes_link {g : Gr} {fol : Bool} {s : Spot} {r : List ByteArray} {k : Nat} (h : (g.isLink s && (fol || !r.isEmpty)) = true) : g.goes fol s r k =
    if 40 < k + 1 then (spot0, 9) else if splitWhy (g.got s.ino).data ≠ 0 then (spot0, splitWhy (g.got s.ino).data) else g.goes fol (startAt s.at_ (g.got s.ino).data) (partsOf (g.got s.ino).data ++ r) (k + 1) := by
  unfold Gr.goes
  rw [show fuelOf r k = ((41 - k) * 200 + r.length) + 1 from rfl, Gr.goN_succ, if_pos h]
  split
  · rfl
  · rename_i hk
    split
    · rfl
    · rename_i hd
      have := fuel_link (r := r) (Decidable.not_not.1 hd) hk
      exact g.goN_fuel fol _ _ _ _ _ (by unfold fuelOf at this ⊢; omega) (Nat.le_refl _)
theorem Gr.goes_end {g : Gr} {fol : Bool} {s : Spot} {k : Nat} (h : (g.isLink s && (fol || !([] : List ByteArray).isEmpty)) = false) : g.goes fol s [] k = (s, 0) := by
  unfold Gr.goes
  rw [show fuelOf [] k = ((41 - k) * 200 + 0) + 1 from rfl, Gr.goN_succ, if_neg (by rw [h]; decide)]
theorem Gr.goes_step {g : Gr} {fol : Bool} {s : Spot} {name : ByteArray} {r : List ByteArray} {k : Nat} (h : g.isLink s = false) : g.goes fol s (name :: r) k =
    if g.stepWhy s ≠ 0 then (spot0, g.stepWhy s) else g.goes fol (g.stepTo s name) r k := by
  unfold Gr.goes
  rw [show fuelOf (name :: r) k = ((41 - k) * 200 + (name :: r).length) + 1 from rfl, Gr.goN_succ, if_neg (by rw [h]; simp)]
  show (if g.stepWhy s ≠ 0 then (spot0, g.stepWhy s) else g.goN fol ((41 - k) * 200 + (name :: r).length) (g.stepTo s name) r k) = _
  by_cases hw : g.stepWhy s ≠ 0
  · rw [if_pos hw, if_pos hw]
  · rw [if_neg hw, if_neg hw]
    exact g.goN_fuel fol _ _ _ _ _ (by unfold fuelOf; rw [List.length_cons]; omega) (Nat.le_refl _)

/-- by rounds: what holds at the end of each way -/
theorem Gr.goes_ind {g : Gr} {fol : Bool} {P : Spot → List ByteArray → Nat → Prop}
    (h1 : ∀ s r k, (g.isLink s && (fol || !r.isEmpty)) = true → (¬ 40 < k + 1 → splitWhy (g.got s.ino).data = 0 → P (startAt s.at_ (g.got s.ino).data) (partsOf (g.got s.ino).data ++ r) (k + 1)) → P s r k)
    (h2 : ∀ s k, (g.isLink s && (fol || !([] : List ByteArray).isEmpty)) = false → P s [] k)
    (h3 : ∀ s name r k, g.isLink s = false → (g.stepWhy s = 0 → P (g.stepTo s name) r k) → P s (name :: r) k) : ∀ s r k, P s r k := by
  have : ∀ (n : Nat) s r k, fuelOf r k ≤ n → P s r k := by
    intro n
    induction n with
    | zero => intro s r k h; unfold fuelOf at h; omega
    | succ n ih =>
      intro s r k h
      by_cases hl : (g.isLink s && (fol || !r.isEmpty)) = true
      · refine h1 s r k hl fun hk hd => ih _ _ _ ?_
        have := fuel_link (r := r) hd hk
        omega
      · rw [Bool.not_eq_true] at hl
        cases r with
        | nil => exact h2 s k hl
        | cons name r =>
          refine h3 s name r k (by simpa using hl) fun hw => ih _ _ _ ?_
          have := fuel_step (name := name) (r := r) (k := k)
          omega
  intro s r k
  exact this _ s r k (Nat.le_refl _)

/-! ### what is found is in the graph -/
structure SpotIn (g : Gr) (s : Spot) : Prop where
  name : s.name.data.toList ≠ [] → (g.look ⟨s.at_, s.name⟩).isSome = s.there ∧ (g.look ⟨s.at_, s.name⟩).getD ⟨0, 0⟩ = s.ino
  there : s.there = true → (g.get s.ino).isSome = true
  dir : (g.get s.at_).isSome = true
theorem Gr.Ok.root_some {g : Gr} (h : g.Ok) : (g.get ⟨0, 0⟩).isSome = true := by
  obtain ⟨i, hi, h1, _⟩ := h.root
  exact Gr.isSome_iff.2 ⟨i, hi, h1⟩
theorem Gr.Ok.root_isDir {g : Gr} (h : g.Ok) : g.isDir ⟨0, 0⟩ = true := by
  obtain ⟨i, hi, h1, h2⟩ := h.root
  exact Gr.isDir_iff.2 ⟨i, h.get_iff.2 ⟨hi, h1⟩, h2⟩
theorem SpotIn.start {g : Gr} (h : g.Ok) {at_ : St} (ha : (g.get at_).isSome = true) (p : ByteArray) : SpotIn g (startAt at_ p) := by
  refine ⟨fun hn => absurd rfl hn, fun _ => ?_, h.root_some⟩
  show (g.get (if isRooted p then ⟨0, 0⟩ else at_)).isSome = true
  split
  · exact h.root_some
  · exact ha
theorem Gr.isDir_some {g : Gr} {id : St} (h : g.isDir id = true) : (g.get id).isSome = true := by
  unfold Gr.isDir at h
  exact (Bool.and_eq_true _ _ ▸ h).1
theorem Gr.stepWhy_zero {g : Gr} {s : Spot} (h : g.stepWhy s = 0) : s.there = true ∧ g.isDir s.ino = true := by
  unfold Gr.stepWhy at h
  split at h
  · cases h
  · rename_i h1
    split at h
    · cases h
    · rename_i h2
      refine ⟨by simpa using h1, ?_⟩
      have hk : (g.got s.ino).kind = 1 := by simpa using h2
      unfold Gr.isDir
      rw [hk]
      cases hg : g.get s.ino with
      | none => unfold Gr.got at hk; rw [hg] at hk; cases hk
      | some i => rfl
theorem Gr.Ok.parent_some_get {g : Gr} (h : g.Ok) {a : St} : (g.get ((g.parent a).getD ⟨0, 0⟩)).isSome = true ∧ g.isDir ((g.parent a).getD ⟨0, 0⟩) = true := by
  cases hp : g.parent a with
  | none => exact ⟨h.root_some, h.root_isDir⟩
  | some p =>
    obtain ⟨_, x, hx, _, h2⟩ := Gr.parent_some hp
    have := (h.ends x hx).1
    rw [h2] at this
    exact ⟨Gr.isDir_some this, this⟩
theorem SpotIn.step {g : Gr} (h : g.Ok) {s : Spot} (hw : g.stepWhy s = 0) (name : ByteArray) : SpotIn g (g.stepTo s name) := by
  obtain ⟨_, hd⟩ := Gr.stepWhy_zero hw
  unfold Gr.stepTo
  split
  · exact ⟨fun hn => absurd rfl hn, fun _ => h.parent_some_get.1, h.root_some⟩
  · refine ⟨fun _ => ⟨rfl, rfl⟩, fun ht => ?_, Gr.isDir_some hd⟩
    dsimp only at ht ⊢
    cases hl : g.look ⟨s.ino, name⟩ with
    | none => rw [hl] at ht; cases ht
    | some id =>
      obtain ⟨x, hx, _, h2⟩ := Gr.look_some hl
      have := (h.ends x hx).2.1
      rw [h2] at this
      exact this
/-! ### two points behind a path -/
theorem Gr.goes_up {g : Gr} (h : g.Ok) (s : Spot) (r : List ByteArray) (k : Nat) : SpotIn g s → g.goes true s (r ++ [upName]) k =
    if (g.goes true s r k).2 ≠ 0 then (spot0, (g.goes true s r k).2) else if g.stepWhy (g.goes true s r k).1 ≠ 0 then (spot0, g.stepWhy (g.goes true s r k).1) else (g.stepTo (g.goes true s r k).1 upName, 0) := by
  refine Gr.goes_ind (g := g) (fol := true) (P := fun s r k => SpotIn g s → g.goes true s (r ++ [upName]) k =
    if (g.goes true s r k).2 ≠ 0 then (spot0, (g.goes true s r k).2) else if g.stepWhy (g.goes true s r k).1 ≠ 0 then (spot0, g.stepWhy (g.goes true s r k).1) else (g.stepTo (g.goes true s r k).1 upName, 0)) ?_ ?_ ?_ s r k
  · intro s r k hl ih hs
    have hl' : g.isLink s = true := by simpa using hl
    rw [Gr.goes_link hl, Gr.goes_link (r := r ++ [upName]) (by rw [hl']; rfl)]
    by_cases hk : 40 < k + 1
    · rw [if_pos hk, if_pos hk]; rfl
    · rw [if_neg hk, if_neg hk]
      by_cases hd : splitWhy (g.got s.ino).data ≠ 0
      · rw [if_pos hd, if_pos hd, if_pos hd]
      · rw [if_neg hd, if_neg hd, ← List.append_assoc]
        exact ih hk (Decidable.not_not.1 hd) (SpotIn.start h hs.dir _)
  · intro s k hl hs
    have hl' : g.isLink s = false := by simpa using hl
    rw [Gr.goes_end hl, List.nil_append, Gr.goes_step hl']
    rw [if_neg (show ¬ ((s, (0 : Int)).2 ≠ 0) by simp)]
    show _ = if g.stepWhy s ≠ 0 then (spot0, g.stepWhy s) else (g.stepTo s upName, 0)
    by_cases hw : g.stepWhy s ≠ 0
    · rw [if_pos hw, if_pos hw]
    · rw [if_neg hw, if_neg hw]
      refine Gr.goes_end ?_
      have hd := h.parent_some_get (a := s.ino)
      have e : g.stepTo s upName = ⟨⟨0, 0⟩, ⟨#[]⟩, (g.parent s.ino).getD ⟨0, 0⟩, true⟩ := by unfold Gr.stepTo; rw [if_pos (show upName.data.toList = [46, 46] from rfl)]
      rw [e]
      unfold Gr.isLink
      dsimp only
      obtain ⟨i, hi, hki⟩ := Gr.isDir_iff.1 hd.2
      rw [Gr.got_of hi, hki]
      simp
  · intro s name r k hl ih hs
    rw [Gr.goes_step hl, List.cons_append, Gr.goes_step hl]
    by_cases hw : g.stepWhy s ≠ 0
    · rw [if_pos hw, if_pos hw, if_pos hw]
    · rw [if_neg hw, if_neg hw]
      exact ih (Decidable.not_not.1 hw) (SpotIn.step h (Decidable.not_not.1 hw) _)

/-! ### a directory's home -/
noncomputable def Gr.depth (g : Gr) (a : St) : Nat := (g.n.filter fun i => g.under a i.id).length
def Gr.upNames (g : Gr) : Nat → St → List ByteArray
  | 0, _ => []
  | n + 1, id => if id = ⟨0, 0⟩ then [] else ((g.list ((g.parent id).getD ⟨0, 0⟩)).filter fun e => decide (e.ino = id)).map (·.name) ++ Gr.upNames g n ((g.parent id).getD ⟨0, 0⟩)
noncomputable def Gr.homeOk (g : Gr) (id : St) : Bool := (g.get id).isSome && ((g.got id).kind == 1 && g.under id ⟨0, 0⟩)
def homeText (l : List ByteArray) : ByteArray := bsOf (47 :: Lib.join (l.map (·.data.toList)) [47])
noncomputable def Gr.ups (g : Gr) (id : St) : List ByteArray := g.upNames (g.depth id) id
noncomputable def Gr.home (g : Gr) (id : St) : ByteArray × Bool := if g.homeOk id then (homeText (g.ups id).reverse, true) else (⟨#[]⟩, false)

theorem filter_le {α : Type} {p q : α → Bool} : ∀ {l : List α}, (∀ x ∈ l, p x = true → q x = true) → (l.filter p).length ≤ (l.filter q).length
  | [], _ => Nat.le_refl _
  | a :: l, h => by
    have := filter_le fun x hx => h x (List.mem_cons_of_mem a hx)
    rw [List.filter_cons, List.filter_cons]
    by_cases hp : p a = true
    · rw [if_pos hp, if_pos (h a List.mem_cons_self hp)]; simpa using this
    · rw [if_neg hp]
      split
      · rw [List.length_cons]; omega
      · exact this
theorem filter_lt {α : Type} {p q : α → Bool} : ∀ {l : List α}, (∀ x ∈ l, p x = true → q x = true) → (∃ x ∈ l, q x = true ∧ p x = false) → (l.filter p).length < (l.filter q).length
  | [], _, ⟨x, hx, _⟩ => by cases hx
  | a :: l, h, ⟨x, hx, h1, h2⟩ => by
    rw [List.filter_cons, List.filter_cons]
    have hl := filter_le (p := p) (q := q) fun x hx => h x (List.mem_cons_of_mem _ hx)
    rcases List.mem_cons.1 hx with e | e
    · subst e
      rw [if_neg (by rw [h2]; decide), if_pos h1, List.length_cons]; omega
    · have ih := filter_lt (fun x hx => h x (List.mem_cons_of_mem _ hx)) ⟨x, e, h1, h2⟩
      by_cases hp : p a = true
      · rw [if_pos hp, if_pos (h a List.mem_cons_self hp)]; simpa using ih
      · rw [if_neg hp]
        split
        · rw [List.length_cons]; omega
        · exact ih
theorem Gr.Ok.depth_up {g : Gr} (h : g.Ok) {a p : St} (hp : g.parent a = some p) : g.depth p < g.depth a := by
  unfold Gr.depth
  obtain ⟨hd, x, hx, h1, h2⟩ := Gr.parent_some hp
  obtain ⟨i, hi, _⟩ := Gr.isDir_iff.1 hd
  obtain ⟨hi1, hi2⟩ := Gr.get_some hi
  refine filter_lt (fun j _ hj => Gr.under_iff.2 (.step hp (Gr.under_iff.1 hj))) ⟨i, hi1, ?_, ?_⟩
  · rw [hi2]; exact Gr.under_iff.2 .here
  · rw [hi2, Bool.eq_false_iff]
    intro hu
    obtain ⟨r2, hr2⟩ := h.ends_up
    have he := h.under_antisymm (Gr.under_iff.1 hu) (.step hp .here)
    have hlt := hr2 _ _ hp
    rw [he] at hlt
    exact Nat.lt_irrefl _ hlt
theorem Gr.Ok.depth_le {g : Gr} (h : g.Ok) (a : St) : g.depth a ≤ 40 := Nat.le_trans (List.length_filter_le _ _) h.len
theorem Gr.Ok.depth_pos {g : Gr} (_ : g.Ok) {a : St} (hd : (g.get a).isSome = true) : 0 < g.depth a := by
  obtain ⟨i, hi, e⟩ := Gr.isSome_iff.1 hd
  unfold Gr.depth
  refine List.length_pos_of_mem (List.mem_filter.2 ⟨hi, ?_⟩)
  rw [e]; exact Gr.under_iff.2 .here
/-- more rounds than there are directories above make no difference -/
theorem Gr.Ok.upNames_fuel {g : Gr} (h : g.Ok) : ∀ (n m : Nat) (id : St), g.Under ⟨0, 0⟩ id → g.isDir id = true → g.depth id ≤ n → g.depth id ≤ m → g.upNames n id = g.upNames m id
  | 0, _, id, _, hd, h1, _ => by have := h.depth_pos (Gr.isDir_some hd); omega
  | _ + 1, 0, id, _, hd, _, h2 => by have := h.depth_pos (Gr.isDir_some hd); omega
  | n + 1, m + 1, id, hu, hd, h1, h2 => by
    unfold Gr.upNames
    split
    · rfl
    · rename_i h0
      rcases hu.inv with e | ⟨p, hp, hu2⟩
      · exact absurd e h0
      · rw [hp, Option.getD_some]
        have := h.depth_up hp
        have hd2 := h.parent_some_get (a := id)
        rw [hp] at hd2
        rw [h.upNames_fuel n m p hu2 hd2.2 (by omega) (by omega)]
/-- the one entry of a directory -/
theorem filter_single {α : Type} {p : α → Bool} {x : α} : ∀ {l : List α}, x ∈ l → p x = true → (l.filter p).length ≤ 1 → l.filter p = [x] := by
  intro l hx hp hl
  have hm : x ∈ l.filter p := List.mem_filter.2 ⟨hx, hp⟩
  match hf : l.filter p with
  | [] => rw [hf] at hm; cases hm
  | [y] => rw [hf, List.mem_singleton] at hm; rw [hm]
  | y :: z :: r => rw [hf] at hl; simp at hl
theorem Gr.Ok.ups_step {g : Gr} (h : g.Ok) {id p : St} (hu : g.Under ⟨0, 0⟩ id) (h0 : id ≠ ⟨0, 0⟩) (hp : g.parent id = some p) :
    ∃ name, g.ups id = name :: g.ups p ∧ g.look ⟨p, name⟩ = some id ∧ nameOk name = true := by
  obtain ⟨hd, x, hx, h1, h2⟩ := Gr.parent_some hp
  have hpd := h.parent_some_get (a := id)
  rw [hp] at hpd
  have hup := hu.up h0 hp
  have hpos := h.depth_pos (Gr.isDir_some hd)
  refine ⟨x.name, ?_, h.look_iff.2 ⟨x, hx, ?_, h1⟩, h.names x hx⟩
  · unfold Gr.ups
    obtain ⟨n, hn⟩ : ∃ n, g.depth id = n + 1 := ⟨g.depth id - 1, by omega⟩
    rw [hn, Gr.upNames, if_neg h0, hp, Option.getD_some]
    have hdl := h.depth_up hp
    rw [h.upNames_fuel n (g.depth p) p hup hpd.2 (by omega) (Nat.le_refl _)]
    have hf : (g.list p).filter (fun e => decide (e.ino = id)) = [x] := by
      refine filter_single ?_ (by simpa using h1) ?_
      · unfold Gr.list; exact List.mem_filter.2 ⟨hx, by simpa using h2⟩
      · have hone := h.dir_one hd
        unfold Gr.count at hone
        unfold Gr.list
        rw [List.filter_filter]
        have hc : ∀ e : Ent, (decide (e.ino = id) && decide (e.at_ = p)) = true → decide (e.ino = id) = true := fun e he => (Bool.and_eq_true _ _ ▸ he).1
        exact Nat.le_trans (filter_le fun e _ he => hc e he) hone
    rw [hf]; rfl
  · rw [← h2]; rfl
theorem Gr.ups_root (g : Gr) : g.ups ⟨0, 0⟩ = [] := by
  unfold Gr.ups
  cases g.depth ⟨0, 0⟩ with
  | zero => rfl
  | succ n => rw [Gr.upNames, if_pos rfl]
theorem nameOk_bytes {s : ByteArray} (h : nameOk s = true) : s.size ≤ 8 ∧ s.data.toList ≠ [] ∧ s.data.toList ≠ [46] ∧ s.data.toList ≠ [46, 46] ∧ 47 ∉ s.data.toList ∧ 0 ∉ s.data.toList := by
  unfold nameOk at h
  rw [bad_bytes] at h
  simp only [Bool.and_eq_true, Bool.not_eq_true', beq_eq_false_iff_ne, decide_eq_true_eq, Bool.or_eq_false_iff] at h
  obtain ⟨h1, h2, h3, h4, h5, h6⟩ := h
  refine ⟨h2, fun e => h1 (by rw [size_data, e]; rfl), h3, h4, fun hm => ?_, fun hm => ?_⟩
  · unfold hasByte at h5
    exact absurd (List.any_eq_false.1 h5 _ hm) (by decide)
  · unfold hasByte at h6
    exact absurd (List.any_eq_false.1 h6 _ hm) (by decide)
theorem nameOk_part {s : ByteArray} (h : nameOk s = true) : 47 ∉ s.data.toList ∧ goodPart s.data.toList = true :=
  ⟨(nameOk_bytes h).2.2.2.2.1, goodPart_of (nameOk_bytes h).2.1 (nameOk_bytes h).2.2.1⟩
theorem Gr.Ok.ups_names {g : Gr} (h : g.Ok) {id : St} (hu : g.Under ⟨0, 0⟩ id) : ∀ x ∈ g.ups id, nameOk x = true := by
  induction hu with
  | here => rw [g.ups_root]; intro x hx; cases hx
  | step hp hu ih =>
    rename_i a p
    by_cases h0 : a = ⟨0, 0⟩
    · rw [h0, g.ups_root]; intro x hx; cases hx
    · obtain ⟨name, e, _, hn⟩ := h.ups_step (.step hp hu) h0 hp
      rw [e]
      intro x hx
      rcases List.mem_cons.1 hx with rfl | hx
      · exact hn
      · exact ih x hx
theorem Gr.Ok.ups_len {g : Gr} (h : g.Ok) {id : St} (hu : g.Under ⟨0, 0⟩ id) : (g.ups id).length ≤ g.depth id := by
  induction hu with
  | here => rw [g.ups_root]; exact Nat.zero_le _
  | step hp hu ih =>
    rename_i a p
    by_cases h0 : a = ⟨0, 0⟩
    · rw [h0, g.ups_root]; exact Nat.zero_le _
    · obtain ⟨name, e, _, _⟩ := h.ups_step (.step hp hu) h0 hp
      have := h.depth_up hp
      rw [e, List.length_cons]; omega
/-- down a directory's names -/
theorem Gr.Ok.down {g : Gr} (h : g.Ok) (fol : Bool) (k : Nat) {id : St} (hu : g.Under ⟨0, 0⟩ id) (hd : g.isDir id = true) : ∃ s : Spot, s.there = true ∧ s.ino = id ∧
    ∀ r, g.goes fol ⟨⟨0, 0⟩, ⟨#[]⟩, ⟨0, 0⟩, true⟩ ((g.ups id).reverse ++ r) k = g.goes fol s r k := by
  induction hu with
  | here => exact ⟨_, rfl, rfl, fun r => by rw [g.ups_root]; rfl⟩
  | step hp hu ih =>
    rename_i a p
    by_cases h0 : a = ⟨0, 0⟩
    · rw [h0]
      exact ⟨_, rfl, rfl, fun r => by rw [g.ups_root]; rfl⟩
    · obtain ⟨name, e, hl, hn⟩ := h.ups_step (.step hp hu) h0 hp
      have hpd := h.parent_some_get (a := a)
      rw [hp] at hpd
      obtain ⟨s, h1, h2, h3⟩ := ih hpd.2
      obtain ⟨i, hi, hk⟩ := Gr.isDir_iff.1 hpd.2
      rw [Option.getD_some] at hi
      have hlk : g.isLink s = false := by
        unfold Gr.isLink
        rw [h2, Gr.got_of hi, hk]
        simp
      have hw : g.stepWhy s = 0 := by
        unfold Gr.stepWhy
        rw [h1, h2, Gr.got_of hi, hk]
        rfl
      have e2 : g.stepTo s name = ⟨p, name, a, true⟩ := by
        unfold Gr.stepTo
        rw [if_neg (nameOk_bytes hn).2.2.2.1, h2, hl]
        rfl
      refine ⟨⟨p, name, a, true⟩, rfl, rfl, fun r => ?_⟩
      rw [e, List.reverse_cons, List.append_assoc, h3, List.cons_append, Gr.goes_step hlk, if_neg (by rw [hw]; simp), e2]
      rfl
theorem homeText_data (l : List ByteArray) : (homeText l).data.toList = 47 :: Lib.join (l.map (·.data.toList)) [47] := bsOf_data _
theorem parts_home {l : List ByteArray} (h : ∀ x ∈ l, nameOk x = true) : partsOf (homeText l) = l := by
  unfold partsOf
  rw [homeText_data, parts_join]
  · rw [List.map_map]
    conv => rhs; rw [← List.map_id l]
    exact List.map_congr_left fun x _ => bsOf_of x
  · intro x hx
    obtain ⟨y, hy, rfl⟩ := List.mem_map.1 hx
    exact nameOk_part (h y hy)
theorem home_rooted (l : List ByteArray) : isRooted (homeText l) = true := by
  unfold isRooted
  rw [homeText_data]
  rfl
theorem mem_join {b : UInt8} : ∀ {l : List (List UInt8)}, b ∈ Lib.join l [47] → b = 47 ∨ ∃ x ∈ l, b ∈ x
  | [], h => by rw [Lib.join_nil] at h; cases h
  | x :: r, h => by
    rw [Lib.join_cons, List.mem_append] at h
    rcases h with h | h
    · exact .inr ⟨x, List.mem_cons_self, h⟩
    · unfold Lib.joinTail at h
      obtain ⟨y, hy, hb⟩ := List.mem_flatten.1 h
      obtain ⟨z, hz, rfl⟩ := List.mem_map.1 hy
      rcases List.mem_append.1 hb with hb | hb
      · exact .inl (by simpa using hb)
      · exact .inr ⟨z, List.mem_cons_of_mem _ hz, hb⟩
theorem home_why {l : List ByteArray} (h : ∀ x ∈ l, nameOk x = true) (hs : (homeText l).size ≤ 128) : splitWhy (homeText l) = 0 := by
  refine splitWhy_of ?_ hs ?_ ?_
  · rw [size_data, homeText_data]; simp
  · rw [parts_home h]
    exact fun x hx => (nameOk_bytes (h x hx)).1
  · unfold hasNul
    rw [homeText_data, Bool.eq_false_iff]
    intro hc
    rw [List.contains_iff_mem] at hc
    rcases List.mem_cons.1 hc with hc | hc
    · cases hc
    · rcases mem_join hc with hc | ⟨x, hx, hb⟩
      · cases hc
      · obtain ⟨y, hy, rfl⟩ := List.mem_map.1 hx
        exact (nameOk_bytes (h y hy)).2.2.2.2.2 hb
/-- a directory is found by its home -/
theorem Gr.Ok.home_found {g : Gr} (h : g.Ok) {id at_ : St} (hu : g.Under ⟨0, 0⟩ id) (hd : g.isDir id = true) (ha : (g.get at_).isSome = true) (hs : (homeText (g.ups id).reverse).size ≤ 128) (fol : Bool) :
    ∃ s : Spot, g.findP at_ (homeText (g.ups id).reverse) fol = (s, 0) ∧ s.there = true ∧ s.ino = id := by
  have hn : ∀ x ∈ (g.ups id).reverse, nameOk x = true := fun x hx => h.ups_names hu x (List.mem_reverse.1 hx)
  obtain ⟨s, h1, h2, h3⟩ := h.down fol 0 hu hd
  refine ⟨s, ?_, h1, h2⟩
  unfold Gr.findP
  rw [if_neg (by rw [home_why hn hs]; simp), if_neg (by rw [ha]; simp), parts_home hn]
  have e : startAt at_ (homeText (g.ups id).reverse) = ⟨⟨0, 0⟩, ⟨#[]⟩, ⟨0, 0⟩, true⟩ := by
    unfold startAt
    rw [home_rooted, if_pos rfl]
  rw [e]
  have := h3 []
  rw [List.append_nil] at this
  rw [this]
  refine Gr.goes_end ?_
  obtain ⟨i, hi, hk⟩ := Gr.isDir_iff.1 hd
  unfold Gr.isLink
  rw [h2, Gr.got_of hi, hk]
  simp
/-- each directory is under the root -/
theorem Gr.Fine.parent_of {g : Gr} (h : g.Fine) {d : St} (hd : g.isDir d = true) (h0 : d ≠ ⟨0, 0⟩) : ∃ p, g.parent d = some p := by
  obtain ⟨i, hi, hk⟩ := Gr.isDir_iff.1 hd
  obtain ⟨hi1, hi2⟩ := Gr.get_some hi
  have h1 := h.ok.links i hi1
  have h2 := (h.nodes i hi1).1 (by rw [hi2]; exact h0)
  have : 0 < (g.e.filter fun x => decide (x.ino = i.id)).length := by
    show 0 < g.count i.id
    omega
  obtain ⟨x, hx⟩ := List.exists_mem_of_length_pos this
  exact ⟨x.at_, h.ok.parent_iff.2 ⟨hd, x, (List.mem_filter.1 hx).1, by rw [← hi2]; simpa using (List.mem_filter.1 hx).2, rfl⟩⟩
theorem Gr.Fine.under_root {g : Gr} (h : g.Fine) {d : St} (hd : g.isDir d = true) : g.Under ⟨0, 0⟩ d := by
  have : ∀ (m : Nat) (d : St), g.depth d ≤ m → g.isDir d = true → g.Under ⟨0, 0⟩ d := by
    intro m
    induction m with
    | zero => intro d hm hd; have := h.ok.depth_pos (Gr.isDir_some hd); omega
    | succ m ih =>
      intro d hm hd
      by_cases h0 : d = ⟨0, 0⟩
      · rw [h0]; exact .here
      · obtain ⟨p, hp⟩ := h.parent_of hd h0
        have h1 := h.ok.depth_up hp
        have h2 := h.ok.parent_some_get (a := d)
        rw [hp] at h2
        exact .step hp (ih p (by omega) h2.2)
  exact this _ d (Nat.le_refl _) hd
theorem Gr.Fine.homeOk_iff {g : Gr} (h : g.Fine) (id : St) : g.homeOk id = g.isDir id := by
  unfold Gr.homeOk
  by_cases hd : g.isDir id = true
  · rw [Gr.under_iff.2 (h.under_root hd), Bool.and_true]; rfl
  · rw [Bool.not_eq_true] at hd
    rw [hd]
    unfold Gr.isDir at hd
    rw [← Bool.and_assoc, hd, Bool.false_and]
theorem join_snoc (l : List (List UInt8)) (x : List UInt8) : ∃ t, Lib.join (l ++ [x]) [47] = Lib.join l [47] ++ t := by
  cases l with
  | nil => exact ⟨x, by rw [List.nil_append, Lib.join_one, Lib.join_nil, List.nil_append]⟩
  | cons y r =>
    refine ⟨47 :: x, ?_⟩
    rw [List.cons_append, Lib.join_cons, Lib.join_cons]
    simp [Lib.joinTail]
/-- a directory's home begins with its parent's -/
theorem Gr.Ok.home_up {g : Gr} (h : g.Ok) {id p : St} (hu : g.Under ⟨0, 0⟩ id) (h0 : id ≠ ⟨0, 0⟩) (hp : g.parent id = some p) :
    ∃ t, (homeText (g.ups id).reverse).data.toList = (homeText (g.ups p).reverse).data.toList ++ t := by
  obtain ⟨name, e, _, _⟩ := h.ups_step hu h0 hp
  obtain ⟨t, ht⟩ := join_snoc ((g.ups p).reverse.map (·.data.toList)) name.data.toList
  refine ⟨t, ?_⟩
  rw [homeText_data, homeText_data, e, List.reverse_cons, List.map_append, List.map_cons, List.map_nil, ht, List.cons_append]
end Go.Proofs.YtfbjiaedfmdcfaaGreatDoor
