/-
  Paths, plainly: a path's parts, where it leads, a directory's home; no condition.
-/
import Derived.Test.YtfbjiaedfmdcfaaGreatDoorKZ4
import Derived.Lib.Join
/-! ## PathPl -/
namespace Go.Proofs.YtfbjiaedfmdcfaaGreatDoor

/-! ### parts -/
def bsOf (l : List UInt8) : ByteArray := ⟨l.toArray⟩
theorem bsOf_data (l : List UInt8) : (bsOf l).data.toList = l := by simp [bsOf]
theorem bsOf_of (s : ByteArray) : bsOf s.data.toList = s := by unfold bsOf; rw [Array.toArray_toList]
theorem size_data (s : ByteArray) : s.size = s.data.toList.length := Array.length_toList.symm

/-- what stands between slashes -/
def cutS : List UInt8 → List (List UInt8)
  | [] => [[]]
  | c :: l => if c = 47 then [] :: cutS l else match cutS l with
    | [] => [[c]]
    | x :: r => (c :: x) :: r
theorem cutS_ne (l : List UInt8) : cutS l ≠ [] := by
  cases l with
  | nil => simp [cutS]
  | cons c l =>
    unfold cutS
    split
    · simp
    · split <;> simp
theorem cutS_app (a : List UInt8) (ha : 47 ∉ a) (l : List UInt8) : ∃ x r, cutS l = x :: r ∧ cutS (a ++ l) = (a ++ x) :: r := by
  induction a with
  | nil =>
    cases h : cutS l with
    | nil => exact absurd h (cutS_ne l)
    | cons x r => exact ⟨x, r, rfl, by simpa using h⟩
  | cons c a ih =>
    obtain ⟨x, r, h1, h2⟩ := ih (fun h => ha (List.mem_cons_of_mem _ h))
    refine ⟨x, r, h1, ?_⟩
    have hc : c ≠ 47 := fun h => ha (by rw [h]; exact List.mem_cons_self)
    rw [List.cons_append, cutS, if_neg hc, h2]
    rfl
theorem cutS_none {a : List UInt8} (ha : 47 ∉ a) : cutS a = [a] := by
  obtain ⟨x, r, h1, h2⟩ := cutS_app a ha []
  simp only [cutS, List.cons.injEq] at h1
  obtain ⟨rfl, rfl⟩ := h1
  simpa using h2
theorem cutS_slash (l : List UInt8) : cutS (47 :: l) = [] :: cutS l := by simp [cutS]
theorem cutS_at {a : List UInt8} (ha : 47 ∉ a) (l : List UInt8) : cutS (a ++ 47 :: l) = a :: cutS l := by
  obtain ⟨x, r, h1, h2⟩ := cutS_app a ha (47 :: l)
  rw [cutS_slash] at h1
  simp only [List.cons.injEq] at h1
  obtain ⟨rfl, rfl⟩ := h1
  simpa using h2
theorem cutS_len : ∀ (l : List UInt8), (cutS l).length ≤ l.length + 1
  | [] => by simp [cutS]
  | c :: l => by
    have ih := cutS_len l
    unfold cutS
    by_cases hc : c = 47
    · rw [if_pos hc]; simp only [List.length_cons]; omega
    · rw [if_neg hc]
      cases h : cutS l with
      | nil => simp
      | cons y r => rw [h] at ih; simp only [List.length_cons] at ih ⊢; omega

def goodPart (x : List UInt8) : Bool := !(x == []) && !(x == [46])
def partsL (l : List UInt8) : List (List UInt8) := (cutS l).filter goodPart
def partsOf (p : ByteArray) : List ByteArray := (partsL p.data.toList).map bsOf
def longPart (s : ByteArray) : Bool := decide (8 < s.size)
def splitWhy (p : ByteArray) : Int := if p.size = 0 then 3 else if decide (128 < p.size) || (partsOf p).any longPart then 10 else if hasNul p then 1 else 0

theorem splitWhy_zero {p : ByteArray} (h : splitWhy p = 0) : p.size ≠ 0 ∧ p.size ≤ 128 ∧ (∀ x ∈ partsOf p, x.size ≤ 8) ∧ hasNul p = false := by
  unfold splitWhy at h
  split at h
  · cases h
  · rename_i h1
    split at h
    · cases h
    · rename_i h2
      split at h
      · cases h
      · rename_i h3
        simp only [Bool.or_eq_true, decide_eq_true_eq, not_or, Bool.not_eq_true] at h2 h3
        refine ⟨h1, by omega, fun x hx => ?_, h3⟩
        have := List.any_eq_false.1 h2.2 x hx
        unfold longPart at this
        simpa using this
theorem goodPart_of {x : List UInt8} (h1 : x ≠ []) (h2 : x ≠ [46]) : goodPart x = true := by
  unfold goodPart
  simp [h1, h2]
theorem partsOf_len (p : ByteArray) : (partsOf p).length ≤ p.size + 1 := by
  unfold partsOf partsL
  rw [List.length_map, size_data]
  exact Nat.le_trans (List.length_filter_le _ _) (cutS_len _)

/-! ### slashes and points more -/
/-! ### where a path leads -/
structure Spot where
  at_ : St
  name : ByteArray
  ino : St
  there : Bool
def spot0 : Spot := ⟨⟨0, 0⟩, ⟨#[]⟩, ⟨0, 0⟩, false⟩
def isRooted (p : ByteArray) : Bool := Lib.hasPrefix p.data.toList [47]
def startAt (at_ : St) (p : ByteArray) : Spot := ⟨⟨0, 0⟩, ⟨#[]⟩, if isRooted p then ⟨0, 0⟩ else at_, true⟩
section
variable (g : Gr)
def Gr.isLink (s : Spot) : Bool := (g.get s.ino).isSome && (s.there && (g.got s.ino).kind == 3)
def Gr.stepWhy (s : Spot) : Int := if !s.there then 3 else if (g.got s.ino).kind != 1 then 6 else 0
def Gr.stepTo (s : Spot) (name : ByteArray) : Spot :=
  if name.data.toList = [46, 46] then ⟨⟨0, 0⟩, ⟨#[]⟩, (g.parent s.ino).getD ⟨0, 0⟩, true⟩ else ⟨s.ino, name, (g.look ⟨s.ino, name⟩).getD ⟨0, 0⟩, (g.look ⟨s.ino, name⟩).isSome⟩
def Gr.goN (fol : Bool) : Nat → Spot → List ByteArray → Nat → Spot × Int
  | 0, _, _, _ => (spot0, 0)
  | n + 1, s, r, k =>
    if g.isLink s && (fol || !r.isEmpty) then
      if 40 < k + 1 then (spot0, 9)
      else if splitWhy (g.got s.ino).data ≠ 0 then (spot0, splitWhy (g.got s.ino).data)
      else Gr.goN fol n (startAt s.at_ (g.got s.ino).data) (partsOf (g.got s.ino).data ++ r) (k + 1)
    else match r with
      | [] => (s, 0)
      | name :: r' => if g.stepWhy s ≠ 0 then (spot0, g.stepWhy s) else Gr.goN fol n (g.stepTo s name) r' k
theorem Gr.goN_succ (fol : Bool) (n : Nat) (s : Spot) (r : List ByteArray) (k : Nat) : g.goN fol (n + 1) s r k =
    if g.isLink s && (fol || !r.isEmpty) then
      if 40 < k + 1 then (spot0, 9)
      else if splitWhy (g.got s.ino).data ≠ 0 then (spot0, splitWhy (g.got s.ino).data)
      else g.goN fol n (startAt s.at_ (g.got s.ino).data) (partsOf (g.got s.ino).data ++ r) (k + 1)
    else match r with
      | [] => (s, 0)
      | name :: r' => if g.stepWhy s ≠ 0 then (spot0, g.stepWhy s) else g.goN fol n (g.stepTo s name) r' k := by cases r <;> rfl
def fuelOf (r : List ByteArray) (k : Nat) : Nat := (41 - k) * 200 + r.length + 1
def Gr.goes (fol : Bool) (s : Spot) (r : List ByteArray) (k : Nat) : Spot × Int := g.goN fol (fuelOf r k) s r k
def Gr.findP (at_ : St) (p : ByteArray) (fol : Bool) : Spot × Int :=
  if splitWhy p ≠ 0 then (spot0, splitWhy p) else if !(g.get at_).isSome then (spot0, 3) else g.goes fol (startAt at_ p) (partsOf p) 0
end

theorem fuel_link {r : List ByteArray} {k : Nat} {d : ByteArray} (h : splitWhy d = 0) (hk : ¬ 40 < k + 1) : fuelOf (partsOf d ++ r) (k + 1) < fuelOf r k := by
  have h1 := partsOf_len d
  have h2 := (splitWhy_zero h).2.1
  unfold fuelOf
  rw [List.length_append]
  omega
theorem fuel_step {name : ByteArray} {r : List ByteArray} {k : Nat} : fuelOf r k < fuelOf (name :: r) k := by
  unfold fuelOf
  rw [List.length_cons]
  omega
theorem Gr.goN_fuel (g : Gr) (fol : Bool) : ∀ (n m : Nat) (s : Spot) (r : List ByteArray) (k : Nat), fuelOf r k ≤ n → fuelOf r k ≤ m → g.goN fol n s r k = g.goN fol m s r k
  | 0, m, s, r, k, h, _ => by unfold fuelOf at h; omega
  | n + 1, 0, s, r, k, _, h => by unfold fuelOf at h; omega
  | n + 1, m + 1, s, r, k, h1, h2 => by
    rw [Gr.goN_succ, Gr.goN_succ]
    split
    · split
      · rfl
      · rename_i hk
        split
        · rfl
        · rename_i hd
          have := fuel_link (r := r) (Decidable.not_not.1 hd) hk
          exact Gr.goN_fuel g fol n m _ _ _ (by omega) (by omega)
    · cases r with
      | nil => rfl
      | cons name r' =>
        dsimp only
        split
        · rfl
        · have := fuel_step (name := name) (r := r') (k := k)
          exact Gr.goN_fuel g fol n m _ _ _ (by omega) (by omega)
/-- one round -/
theorem Gr.goes_link {g : Gr} {fol : Bool} {s : Spot} {r : List ByteArray} {k : Nat} (h : (g.isLink s && (fol || !r.isEmpty)) = true) : g.goes fol s r k =
    if 40 < k + 1 then (spot0, 9) else if splitWhy (g.got s.ino).data ≠ 0 then (spot0, splitWhy (g.got s.ino).data) else g.goes fol (startAt s.at_ (g.got s.ino).data) (partsOf (g.got s.ino).data ++ r) (k + 1) := by
  unfold Gr.goes
  rw [show fuelOf r k = ((41 - k) * 200 + r.length) + 1 from rfl, Gr.goN_succ, if_pos h]
  split
  · rfl
  · rename_i hk
    split
    · rfl
    · rename_i hd
      have := fuel_link (r := r) (Decidable.not_not.1 hd) hk
      exact g.goN_fuel fol _ _ _ _ _ (by unfold fuelOf at this ⊢; omega) (Nat.le_refl _)
theorem Gr.goes_end {g : Gr} {fol : Bool} {s : Spot} {k : Nat} (h : (g.isLink s && (fol || !([] : List ByteArray).isEmpty)) = false) : g.goes fol s [] k = (s, 0) := by
  unfold Gr.goes
  rw [show fuelOf [] k = ((41 - k) * 200 + 0) + 1 from rfl, Gr.goN_succ, if_neg (by rw [h]; decide)]
theorem Gr.goes_step {g : Gr} {fol : Bool} {s : Spot} {name : ByteArray} {r : List ByteArray} {k : Nat} (h : g.isLink s = false) : g.goes fol s (name :: r) k =
    if g.stepWhy s ≠ 0 then (spot0, g.stepWhy s) else g.goes fol (g.stepTo s name) r k := by
  unfold Gr.goes
  rw [show fuelOf (name :: r) k = ((41 - k) * 200 + (name :: r).length) + 1 from rfl, Gr.goN_succ, if_neg (by rw [h]; simp)]
  show (if g.stepWhy s ≠ 0 then (spot0, g.stepWhy s) else g.goN fol ((41 - k) * 200 + (name :: r).length) (g.stepTo s name) r k) = _
  by_cases hw : g.stepWhy s ≠ 0
  · rw [if_pos hw, if_pos hw]
  · rw [if_neg hw, if_neg hw]
    exact g.goN_fuel fol _ _ _ _ _ (by unfold fuelOf; rw [List.length_cons]; omega) (Nat.le_refl _)

/-! ### what is found is in the graph -/
/-! ### two points behind a path -/
/-! ### a directory's home -/
end Go.Proofs.YtfbjiaedfmdcfaaGreatDoor
