/-
  slices.ContainsFunc at a list of texts, for those that are too long; strings.HasPrefix at a slash; no condition. · Ranging over a map: what is left, what has come; no condition. · The contracts of maps.Values at a graph's inodes, and of slices.Collect over it; condition: fewer inodes than the form's reach. · Rows of structs that are put together; no condition. · The iterator of slices.Backward at a list of inodes; condition: at most 1000 of them. · m[k] op= x: mapEntry and entryStore; no condition. · The audit's order, shape, lost, count, many, bounds; condition: at most 1000 of each, and names no longer than a string may be. · Which inodes are reached, in plain words; no condition. · The audit's reach; condition: at most 1000 entries. · The audit's made; condition: at most 1000 inodes and entries. · The audit's apart, Check and Fine; condition: at most 1000 of each, and names no longer than a string may be. · audit.Fine, thimblelaw10's few and shown, thimbleref10.Ints; conditions: those of audit.Check. · thimblelaw10.without; condition: at most 1000 entries, and one of them.
-/
import Derived.Test.YtfbjiaedfmdcfaaGreatDoorKY12
import Derived.Test.YtfbjiaedfmdcfaaGreatDoorKY9
import Derived.Deep.LoopGhost
import Derived.Test.YtfbjiaedfmdcfaaGreatDoorKY0
import Derived.RangeFuncNested
import Derived.RangeFuncLeaves
import Derived.Shelf.Abstract
import Derived.OwnWalkIn
import Derived.TacticsInMore
import Derived.LoopNIn
import Derived.LoopIn
import Derived.Test.YtfbjiaedfmdcfaaGreatDoorKY11
/-! ## PathC -/
namespace Go.Proofs.YtfbjiaedfmdcfaaGreatDoor
open Go.RowKit Go.Shelf

def strCells (s : ByteArray) : List Value := [.string s]
theorem cellsStr {w : World} {zs : List ByteArray} {b off : Nat} (hc : ∀ j, j < zs.length → ∀ i u, (strCells zs[j]!)[i]? = some u → w.cell? ⟨b, off + j * 1 + i, none⟩ = some u) (j : Nat) (hj : j < zs.length) :
    w.cell? ⟨b, off + j, none⟩ = some (.string zs[j]!) := by
  have h := hc j hj 0 _ rfl
  rw [Nat.mul_one, Nat.add_zero] at h
  exact h
theorem slStr_at {w : World} {a : Option Addr} {c n : Nat} {zs : List ByteArray} (h : SlAt w 1 strCells (.slice a n c) zs) {i : Nat} (hi : i < zs.length) : ∃ b off, a = some ⟨b, off, none⟩ ∧ b < w.heap.size ∧ ∀ j, j < zs.length → w.cell? ⟨b, off + j, none⟩ = some (.string zs[j]!) := by
  rcases h with ⟨_, _, _, h0⟩ | ⟨b, off, c', h0, _, _, h3, h4⟩
  · rw [h0] at hi; exact absurd hi (Nat.not_lt_zero _)
  · simp at h0; exact ⟨b, off, h0.1, h3, fun j hj => cellsStr h4 j hj⟩

/-- v is a slice of texts; no elements: nil, or somewhere -/
def TxAt (w : World) (v : Value) (l : List ByteArray) : Prop :=
  (v = .slice none 0 0 ∧ l = []) ∨ (∃ ad c, v = .slice (some ad) 0 c ∧ l = []) ∨ ∃ b off c, v = .slice (some ⟨b, off, none⟩) l.length c ∧ l.length ≤ c ∧ c ≤ maxLen ∧ b < w.heap.size ∧ ∀ j, j < l.length → w.cell? ⟨b, off + j, none⟩ = some (.string l[j]!)
theorem TxAt.sl {w : World} {v : Value} {l : List ByteArray} (h : TxAt w v l) : SlAt w 1 strCells v l := by
  rcases h with ⟨rfl, rfl⟩ | ⟨ad, c, rfl, rfl⟩ | ⟨b, off, c, rfl, h1, h2, h3, h4⟩
  · exact .inl ⟨_, _, rfl, rfl⟩
  · exact .inl ⟨_, _, rfl, rfl⟩
  · refine .inr ⟨b, off, c, rfl, h1, h2, h3, fun j hj i u hu => ?_⟩
    cases i with
    | zero => rw [Nat.mul_one, Nat.add_zero, h4 j hj]; exact hu
    | succ i => simp [strCells] at hu
theorem TxAt.kept {w w' : World} {v : Value} {l : List ByteArray} (h : TxAt w v l) (hs : w.heap.size ≤ w'.heap.size) (hc : ∀ b o, b < w.heap.size → (∃ k, w.cell? ⟨b, o, none⟩ = some (.string k)) → w'.cell? ⟨b, o, none⟩ = w.cell? ⟨b, o, none⟩) : TxAt w' v l := by
  rcases h with h | h | ⟨b, off, c, rfl, h1, h2, h3, h4⟩
  · exact .inl h
  · exact .inr (.inl h)
  · exact .inr (.inr ⟨b, off, c, rfl, h1, h2, Nat.lt_of_lt_of_le h3 hs, fun j hj => (hc b _ h3 ⟨_, h4 j hj⟩).trans (h4 j hj)⟩)
theorem TxAt.below {w w' : World} {v : Value} {l : List ByteArray} (h : TxAt w v l) (hb : Below w.heap.size w w') : TxAt w' v l := h.kept hb.size fun b o hlt _ => hb.cell (p := ⟨b, o, none⟩) hlt
theorem TxAt.of_own {w : World} {base : Nat} {t : TypeId} {v : Value} {l : List ByteArray} (h : w.ownsRow base t 1 v l.length (l.map Value.string)) : TxAt w v l := by
  rcases h.2 with ⟨rfl, h0⟩ | ⟨g, cap, cur, rfl, hb, hg, h1, h2, h3, h4⟩
  · exact .inl ⟨rfl, List.eq_nil_of_length_eq_zero h0⟩
  · refine .inr (.inr ⟨g, 0, cap, rfl, h1, h2, (Array.getElem?_eq_some_iff.1 hg).1, fun j hj => ?_⟩)
    unfold World.cell?
    simp only [hg]
    have e : (cur.toList.take (l.length * 1))[j]? = some (.string l[j]!) := by
      rw [h4, List.getElem?_map, List.getElem?_eq_getElem hj, getElem!_pos l j hj]; rfl
    rw [List.getElem?_take, if_pos (by omega)] at e
    rw [Nat.zero_add]
    simpa using e

/-- its row lies beyond B -/
def FreshV (B : Nat) (v : Value) : Prop := ∀ ad m c, v = .slice (some ad) m c → B ≤ ad.block
theorem FreshV.nil (B : Nat) : FreshV B (.slice none 0 0) := fun _ _ _ h => by cases h
theorem FreshV.of_own {w : World} {base : Nat} {t : TypeId} {k n : Nat} {v : Value} {xs : List Value} (h : w.ownsRow base t k v n xs) : FreshV base v := fun ad m c e => by
  rcases h.2 with ⟨rfl, _⟩ | ⟨g, cap, cur, rfl, hb, _⟩
  · cases e
  · cases e; exact hb
theorem FreshV.mono {A B : Nat} {v : Value} (h : FreshV B v) (hab : A ≤ B) : FreshV A v := fun ad m c e => Nat.le_trans hab (h ad m c e)

set_option maxRecDepth 100000 in
set_option maxHeartbeats 400000 in
theorem long_any (s : ByteArray) (w : World) : Calls Tryz.prog 64 #[.string s] w fun e w' => e = .returned (.bool (longPart s)) ∧ w = w' := by
  unfold longPart
  go_enter Tryz.func64, Tryz.ntmps64
  go_wp2
  go_ret
  refine ⟨?_, rfl⟩
  simp
  omega

theorem any_at (l : List ByteArray) (i : Nat) (hi : i < l.length) (h : longPart l[i]! = true) : l.any longPart = true := List.any_eq_true.2 ⟨l[i]!, by rw [getElem!_pos l i hi]; exact List.getElem_mem _, h⟩
theorem any_none (l : List ByteArray) (h : ∀ j, j < l.length → longPart l[j]! = false) : l.any longPart = false := List.any_eq_false.2 fun x hx => by
  obtain ⟨j, hj, e⟩ := List.getElem_of_mem hx
  have := h j hj
  rw [getElem!_pos l j hj, e] at this
  simp [this]

set_option maxRecDepth 100000 in
set_option maxHeartbeats 400000 in
theorem indexLong_any (v : Value) (l : List ByteArray) (w : World) (h : SlAt w 1 strCells v l) (hl : l.length ≤ 140737488355330) :
    Calls Tryz.prog 103 #[v, .func (.func 64) #[] #[]] w fun e w' => (∃ k : Int, e = .returned (.int .i64 k) ∧ decide (0 ≤ k) = l.any longPart) ∧ w = w' := by
  have eg : ∀ args w, (callFunc 64 args).run Tryz.prog w = .ok (.enter 64 args) w := enters_of Tryz.func64 (by kernel_rfl) rfl
  obtain ⟨va, vc, rfl⟩ := h.len
  have HS := Lib.hid h
  clear h
  go_enter Tryz.func103, Tryz.ntmps103
  go_wp2
  go_loopg [5, 8] l.length (fun gg _ s8 wr => ∃ i : Nat, s8 = .int .i64 i ∧ i ≤ l.length ∧ l.length - i ≤ gg ∧ Aside (∀ j, j < i → longPart l[j]! = false) ∧ w = wr)
  case atStart => exact ⟨0, rfl, Nat.zero_le _, by omega, (show Aside _ from fun j hj => absurd hj (Nat.not_lt_zero _)), rfl⟩
  case round =>
    obtain ⟨i, rfl, hil, hgg, hA, rfl⟩ := hrel
    have hwi : IntKind.i64.wrap ((i : Int) + 1) = (i : Int) + 1 := wrapNat (i + 1) (by omega)
    by_cases hlt : i < l.length
    · have hlti : (i : Int) < (l.length : Int) := by omega
      have hi0 : (0 : Int) ≤ (i : Int) := by omega
      obtain ⟨bb, off, rfl, hbl, hcells⟩ := slStr_at HS.out hlt
      have x0 := hcells i hlt
      clear hcells
      have HL := Lib.hid (fun W => long_any l[i]! W)
      have HA1 := Lib.hid (any_at l i hlt)
      have HA2 : Hid (longPart l[i]! = false → ∀ j, j < i + 1 → longPart l[j]! = false) := Lib.hid fun h j hj => by
        by_cases e : j = i
        · rw [e]; exact h
        · exact hA.out j (by omega)
      generalize l[i]! = x at *
      cases hx : longPart x with
      | true =>
        rw [hx] at HL
        have HR := Lib.hid (HA1.out hx)
        clear hx HA1 HA2
        go_wp2_with (go_at_fn 64; refine (HL.out _).mono ?_; rintro e w' ⟨rfl, rfl⟩)
        go_ret
        exact ⟨⟨_, rfl, by rw [HR.out, decide_eq_true hi0]⟩, rfl⟩
      | false =>
        rw [hx] at HL
        have HN := Lib.hid (HA2.out hx)
        clear hx HA1 HA2
        go_wp2_with (go_at_fn 64; refine (HL.out _).mono ?_; rintro e w' ⟨rfl, rfl⟩)
        go_roundg (l.length - (i + 1))
        case measure => omega
        case rel => exact ⟨i + 1, by first | rfl | go_num, by omega, by omega, (show Aside _ from HN.out), rfl⟩
    · have hlti : ¬ (i : Int) < (l.length : Int) := by omega
      have HN := Lib.hid (any_none l fun j hj => hA.out j (by omega))
      go_wp2
      go_ret
      exact ⟨⟨_, rfl, by rw [HN.out]; decide⟩, rfl⟩

set_option maxRecDepth 100000 in
set_option maxHeartbeats 400000 in
theorem containsLong_any (v : Value) (l : List ByteArray) (w : World) (h : SlAt w 1 strCells v l) (hl : l.length ≤ 140737488355330) :
    Calls Tryz.prog 65 #[v, .func (.func 64) #[] #[]] w fun e w' => e = .returned (.bool (l.any longPart)) ∧ w = w' := by
  obtain ⟨va, vc, rfl⟩ := h.len
  have HI := Lib.hid (indexLong_any _ l w h hl)
  clear h
  generalize l.any longPart = r at *
  go_enter Tryz.func65, Tryz.ntmps65
  go_wp2_with (go_at_call 103; refine HI.out.mono ?_; rintro e w' ⟨⟨k, rfl, hk⟩, rfl⟩)
  go_ret
  exact ⟨by rw [← hk]; simp, rfl⟩

theorem rooted_iff (s : ByteArray) : isRooted s = true ↔ ∃ l, s.data.toList = 47 :: l := by
  unfold isRooted Lib.hasPrefix
  cases h : s.data.toList with
  | nil => simp [List.isPrefixOf]
  | cons a l =>
    simp only [List.isPrefixOf, Bool.and_true, beq_iff_eq]
    constructor
    · intro e; exact ⟨l, by rw [e]⟩
    · rintro ⟨m, e⟩; cases e; rfl

set_option maxRecDepth 100000 in
set_option maxHeartbeats 400000 in
theorem litePrefix_any (s : ByteArray) (w : World) : Calls Tryz.prog 141 #[.string s, .string ⟨#[47]⟩] w fun e w' => e = .returned (.bool (isRooted s)) ∧ w = w' := by
  have h1 : (⟨#[47]⟩ : ByteArray).size = 1 := rfl
  have HE : Hid (((s.extract 0 1).toList == (⟨#[47]⟩ : ByteArray).toList) = isRooted s) := Lib.hid (by
    rw [toList_inj, Bool.eq_iff_iff, decide_eq_true_iff, rooted_iff, bs_take]
    constructor
    · intro e
      have e2 : s.data.toList.take 1 = [47] := by
        have := congrArg (fun b : ByteArray => b.data.toList) e
        rw [bsOf_data] at this
        exact this
      cases hs : s.data.toList with
      | nil => rw [hs] at e2; cases e2
      | cons a l => rw [hs] at e2; simp at e2; exact ⟨l, by rw [e2]⟩
    · rintro ⟨l, e⟩
      rw [e]; rfl)
  by_cases hz : 1 ≤ s.size
  · have hzi : (1 : Int) ≤ (s.size : Int) := by omega
    obtain ⟨b, hb⟩ : ∃ b : ByteArray, b = ⟨#[47]⟩ := ⟨_, rfl⟩
    rw [← hb] at h1 HE ⊢
    clear hb
    generalize isRooted s = r at *
    go_enter Tryz.func141, Tryz.ntmps141
    go_wp2
    go_ret
    exact ⟨congrArg (fun r : Bool => Ending.returned (.bool r)) HE.out, rfl⟩
  · have hzi : ¬ (1 : Int) ≤ (s.size : Int) := by omega
    have hr : isRooted s = false := by
      rw [Bool.eq_false_iff]
      intro h
      obtain ⟨l, e⟩ := (rooted_iff s).1 h
      rw [size_data, e] at hz
      simp at hz
    rw [hr]
    clear HE
    obtain ⟨b, hb⟩ : ∃ b : ByteArray, b = ⟨#[47]⟩ := ⟨_, rfl⟩
    rw [← hb] at h1 ⊢
    clear hb
    go_enter Tryz.func141, Tryz.ntmps141
    go_wp2
    go_ret
    exact ⟨rfl, rfl⟩

set_option maxRecDepth 100000 in
set_option maxHeartbeats 400000 in
theorem hasPrefix_any (s : ByteArray) (w : World) : Calls Tryz.prog 100 #[.string s, .string ⟨#[47]⟩] w fun e w' => e = .returned (.bool (isRooted s)) ∧ w = w' := by
  have H := Lib.hid (fun W => litePrefix_any s W)
  generalize isRooted s = r at *
  generalize (⟨#[47]⟩ : ByteArray) = b at *
  go_enter Tryz.func100, Tryz.ntmps100
  go_wp2_with (go_at_call 141; refine (H.out _).mono ?_; rintro e w' ⟨rfl, rfl⟩)
  go_ret
  exact ⟨rfl, rfl⟩
end Go.Proofs.YtfbjiaedfmdcfaaGreatDoor

/-! ## Range -/
namespace Go.Proofs.YtfbjiaedfmdcfaaGreatDoor
open Go.RowKit

section
variable {K V : Type} {enc : K → Value} {encV : V → Value} {kv : List (K × V)} {w : World} {r b : Nat}

/-- the entries that have not come yet -/
def leftOf (es : Array MapEntry) (kv : List (K × V)) (seen : Array Nat) : List (MapEntry × (K × V)) := (es.toList.zip kv).filter fun x => !seen.contains x.1.born

/-- a range over the map of block b is under way in block r; 'took' has come, n are left -/
def RangeAt (w : World) (r b : Nat) (enc : K → Value) (encV : V → Value) (kv : List (K × V)) (took : List (K × V)) (n : Nat) : Prop :=
  ∃ es ck seen, w.heap[b]? = some (.map es ck) ∧ es.toList.map (fun e => (e.key, e.val)) = kv.map (fun p => (enc p.1, encV p.2)) ∧ BornOk es ck ∧
    w.heap[r]? = some (.mapIter (some b) ck seen ck) ∧ (took ++ (leftOf es kv seen).map (·.2)).Perm kv ∧ (leftOf es kv seen).length = n

theorem RangeAt.kept {took : List (K × V)} {n : Nat} {w' : World} (h : RangeAt w r b enc encV kv took n) (hb : w'.heap[b]? = w.heap[b]?) (hr : w'.heap[r]? = w.heap[r]?) : RangeAt w' r b enc encV kv took n := by
  obtain ⟨es, ck, seen, h1, h2, h3, h4, h5, h6⟩ := h
  exact ⟨es, ck, seen, hb.trans h1, h2, h3, hr.trans h4, h5, h6⟩
theorem RangeAt.map {took : List (K × V)} {n : Nat} (h : RangeAt w r b enc encV kv took n) : MapAt w b enc encV kv := by
  obtain ⟨es, ck, seen, h1, h2, h3, h4, h5, h6⟩ := h
  exact ⟨es, ck, h1, h2, h3⟩
theorem RangeAt.iter {took : List (K × V)} {n : Nat} (h : RangeAt w r b enc encV kv took n) : ∃ m s q l, w.heap[r]? = some (.mapIter m s q l) := by
  obtain ⟨es, ck, seen, h1, h2, h3, h4, h5, h6⟩ := h
  exact ⟨_, _, _, _, h4⟩

theorem zip_map_snd {es : Array MapEntry} (h : es.toList.map (fun e => (e.key, e.val)) = kv.map (fun p => (enc p.1, encV p.2))) : (es.toList.zip kv).map (·.2) = kv := by
  have hl : es.toList.length = kv.length := by simpa using congrArg List.length h
  exact List.map_snd_zip (by omega)

/-- the beginning of a range -/
theorem run_range_kv {P : Program} {T kt et : TypeId} (hT : P.underlying T = some (.map kt et)) (hm : MapAt w b enc encV kv) :
    ∃ w', (Instr.range T (.map (some b))).run P w = .ok (.pointer (some ⟨w.heap.size, 0, none⟩)) w' ∧ New w w' ∧ RangeAt w' w.heap.size b enc encV kv [] kv.length := by
  obtain ⟨es, ck, hb, hkv, hB⟩ := hm
  have hgo : (getObj b).run P w = .ok (.map es ck) w := by simp [getObj, Sem.run, hb]
  have hl : es.toList.length = kv.length := by simpa using congrArg List.length hkv
  refine ⟨w.alloc (.mapIter (some b) ck #[] ck), ?_, New.alloc' _ _, es, ck, #[], ?_, hkv, hB, ?_, ?_, ?_⟩
  · simp [Instr.range, run_underlying hT, hgo, Result.andThen]
  · exact (New.alloc' w _).heap hb
  · exact World.alloc_heap_new w _
  · have : leftOf es kv #[] = es.toList.zip kv := by simp [leftOf]
    rw [this, zip_map_snd hkv]
    exact List.Perm.refl _
  · have : leftOf es kv #[] = es.toList.zip kv := by simp [leftOf]
    rw [this, List.length_zip, hl, Nat.min_self]

theorem left_arr {es : Array MapEntry} {ck : Nat} (hB : BornOk es ck) (seen : Array Nat) :
    (es.filter fun e => !seen.contains e.born).filter (·.born < ck) = es.filter (fun e => !seen.contains e.born) ∧ (es.filter fun e => !seen.contains e.born).filter (·.born ≥ ck) = #[] := by
  constructor
  · apply Array.ext'
    rw [Array.toList_filter, List.filter_eq_self]
    intro a ha
    rw [Array.toList_filter] at ha
    have := hB.2 a (List.mem_filter.1 ha).1
    simpa using this
  · apply Array.ext'
    rw [Array.toList_filter, List.filter_eq_nil_iff]
    intro a ha
    rw [Array.toList_filter] at ha
    have := hB.2 a (List.mem_filter.1 ha).1
    simp; omega

theorem leftOf_fst {es : Array MapEntry} (seen : Array Nat) (hl : es.toList.length = kv.length) : (leftOf es kv seen).map (·.1) = es.toList.filter (fun e => !seen.contains e.born) := by
  unfold leftOf
  have : ∀ (l : List MapEntry) (k : List (K × V)), l.length = k.length → ((l.zip k).filter fun x => !seen.contains x.1.born).map (·.1) = l.filter (fun e => !seen.contains e.born) := by
    intro l
    induction l with
    | nil => intro k _; rfl
    | cons a l ih =>
      intro k hk
      cases k with
      | nil => simp at hk
      | cons p k =>
        simp only [List.zip_cons_cons, List.filter_cons]
        split
        · simp only [List.map_cons]; rw [ih k (by simpa using hk)]
        · exact ih k (by simpa using hk)
  exact this _ _ hl

/-- one entry goes -/
theorem filter_go {X : Type} (f : X → Nat) : ∀ (l : List X), l.Pairwise (fun a b => f a < f b) → ∀ (seen : Array Nat) (x : X), x ∈ l.filter (fun a => !seen.contains (f a)) →
    (x :: l.filter (fun a => !(seen.push (f x)).contains (f a))).Perm (l.filter (fun a => !seen.contains (f a)))
  | [], _, _, _, h => by simp at h
  | a :: l, hp, seen, x, h => by
    rw [List.pairwise_cons] at hp
    have hpush : ∀ y, (seen.push (f x)).contains (f y) = (seen.contains (f y) || (f y == f x)) := by
      intro y
      rw [Bool.eq_iff_iff]
      simp
    by_cases hax : f a = f x
    · have hx : x = a := by
        rcases List.mem_cons.1 (List.mem_filter.1 h).1 with e | e
        · exact e
        · have := hp.1 x e; omega
      subst hx
      have hs : (!seen.contains (f x)) = true := (List.mem_filter.1 h).2
      rw [List.filter_cons, List.filter_cons, if_pos hs, hpush]
      simp only [beq_self_eq_true, Bool.or_true, Bool.not_true, Bool.false_eq_true, if_false]
      apply List.Perm.cons
      apply List.Perm.of_eq
      apply List.filter_congr
      intro y hy
      have := hp.1 y hy
      rw [hpush, beq_eq_false_iff_ne.2 (show f y ≠ f x by omega), Bool.or_false]
    · have hxl : x ∈ l.filter (fun a => !seen.contains (f a)) := by
        have hm := List.mem_filter.1 h
        rcases List.mem_cons.1 hm.1 with e | e
        · exact absurd (by rw [e]) hax
        · exact List.mem_filter.2 ⟨e, hm.2⟩
      have ih := filter_go f l hp.2 seen x hxl
      rw [List.filter_cons, List.filter_cons, hpush, beq_eq_false_iff_ne.2 hax, Bool.or_false]
      split
      · exact (List.Perm.swap _ _ _).trans (ih.cons _)
      · exact ih

/-- the end of a range -/
theorem run_next_done {P : Program} {took : List (K × V)} (h : RangeAt w r b enc encV kv took 0) (ty : TypeId) :
    took.Perm kv ∧ (Instr.next (.pointer (some ⟨r, 0, none⟩)) false ty).run P w = .ok (.tuple #[.bool false]) w := by
  obtain ⟨es, ck, seen, h1, h2, h3, h4, h5, h6⟩ := h
  have hl : es.toList.length = kv.length := by simpa using congrArg List.length h2
  have hnil : leftOf es kv seen = [] := List.eq_nil_of_length_eq_zero h6
  have hf := leftOf_fst (kv := kv) seen hl
  rw [hnil] at h5 hf
  have hgo : (getObj b).run P w = .ok (.map es ck) w := by simp [getObj, Sem.run, h1]
  have hgr : (getObj r).run P w = .ok (.mapIter (some b) ck seen ck) w := by simp [getObj, Sem.run, h4]
  have hla : es.filter (fun e => !seen.contains e.born) = #[] := by
    apply Array.ext'; rw [Array.toList_filter, ← hf]; rfl
  have hg : (!seen.isEmpty && !es.isEmpty && es.all (·.born ≥ ck)) = false := by
    by_cases he : es.isEmpty = true
    · simp [he]
    · have : es.all (·.born ≥ ck) = false := by
        rw [Bool.eq_false_iff]
        intro hall
        have hne : 0 < es.size := by
          rcases Nat.eq_zero_or_pos es.size with h0 | h0
          · exact absurd (by simpa using h0) he
          · exact h0
        have h0 := (Array.all_eq_true.1 hall) 0 hne
        have := h3.2 es[0] (by simp)
        simp at h0; omega
      rw [this, Bool.and_false]
  refine ⟨by simpa using h5, ?_⟩
  simp only [Instr.next, Sem.run_bind, hgr, hgo, Result.andThen, hg, hla]
  simp [choose, Sem.run, Question.forced]

/-- a step of a range -/
theorem run_next_step {P : Program} {took : List (K × V)} {n : Nat} (h : RangeAt w r b enc encV kv took (n + 1)) :
    ∃ p d o, (∀ ty, (Instr.next (.pointer (some ⟨r, 0, none⟩)) false ty).run P w = .ok (.tuple #[.bool true, enc p.1, encV p.2]) ((w.drewN d).putObj r o)) ∧ (∀ c e f, o ≠ .cells c e f) ∧
      (r ≠ b → (Instr.entry (.pointer (some ⟨r, 0, none⟩))).run P ((w.drewN d).putObj r o) = .ok (.tuple #[enc p.1, encV p.2]) ((w.drewN d).putObj r o)) ∧
      (r ≠ b → RangeAt ((w.drewN d).putObj r o) r b enc encV kv (took ++ [p]) n) := by
  obtain ⟨es, ck, seen, h1, h2, h3, h4, h5, h6⟩ := h
  have hl : es.toList.length = kv.length := by simpa using congrArg List.length h2
  have hf := leftOf_fst (kv := kv) seen hl
  have hgo : (getObj b).run P w = .ok (.map es ck) w := by simp [getObj, Sem.run, h1]
  have hgr : (getObj r).run P w = .ok (.mapIter (some b) ck seen ck) w := by simp [getObj, Sem.run, h4]
  obtain ⟨a1, a2⟩ := left_arr h3 seen
  obtain ⟨L, hL⟩ : ∃ L, L = es.filter (fun e => !seen.contains e.born) := ⟨_, rfl⟩
  have hLl : L.toList = (leftOf es kv seen).map (·.1) := by rw [hL, Array.toList_filter, hf]
  have hLs : L.size = n + 1 := by rw [← Array.length_toList, hLl, List.length_map, h6]
  rw [← hL] at a1 a2
  have hg : (!seen.isEmpty && !es.isEmpty && es.all (·.born ≥ ck)) = false := by
    by_cases he : es.isEmpty = true
    · simp [he]
    · have : es.all (·.born ≥ ck) = false := by
        rw [Bool.eq_false_iff]
        intro hall
        have hne : 0 < es.size := by
          rcases Nat.eq_zero_or_pos es.size with h0 | h0
          · exact absurd (by simpa using h0) he
          · exact h0
        have h0 := (Array.all_eq_true.1 hall) 0 hne
        have := h3.2 es[0] (by simp)
        simp at h0; omega
      rw [this, Bool.and_false]
  -- which one comes
  have hch : ∃ i d, i < L.size ∧ (choose (.mapNext L.size)).run P w = .ok i (w.drewN d) := by
    by_cases hforced : L.size ≤ 1
    · exact ⟨0, 0, by omega, by simp [choose, Sem.run, Question.forced, hforced, World.drewN]⟩
    · refine ⟨w.tape w.drawn (.mapNext L.size) % L.size, 1, Nat.mod_lt _ (by omega), ?_⟩
      simp only [choose, Sem.run, Question.forced, hforced, decide_false]
      rfl
  obtain ⟨i, d, hi, hch⟩ := hch
  have hix : i < (leftOf es kv seen).length := by rw [h6]; omega
  obtain ⟨x, hx⟩ : ∃ x, x = (leftOf es kv seen)[i] := ⟨_, rfl⟩
  have hxm : x ∈ leftOf es kv seen := by rw [hx]; exact List.getElem_mem _
  have hLi : L[i]? = some x.1 := by
    rw [← Array.getElem?_toList, hLl, List.getElem?_map, List.getElem?_eq_getElem hix, hx]; rfl
  -- its pair
  have hpair : x.1.key = enc x.2.1 ∧ x.1.val = encV x.2.2 := by
    have hz : x ∈ es.toList.zip kv := (List.mem_filter.1 hxm).1
    have key : ∀ (l : List MapEntry) (k : List (K × V)), l.map (fun e => (e.key, e.val)) = k.map (fun p => (enc p.1, encV p.2)) → ∀ x ∈ l.zip k, x.1.key = enc x.2.1 ∧ x.1.val = encV x.2.2 := by
      intro l
      induction l with
      | nil => intro k _ x hx; simp at hx
      | cons a l ih =>
        intro k hk x hx
        cases k with
        | nil => simp at hx
        | cons p k =>
          simp only [List.map_cons, List.cons.injEq, Prod.mk.injEq] at hk
          rcases List.mem_cons.1 hx with e | e
          · rw [e]; exact hk.1
          · exact ih k hk.2 x e
    exact key _ _ h2 x hz
  refine ⟨x.2, d, .mapIter (some b) ck (seen.push x.1.born) ck, ?_, fun _ _ _ => by simp, ?_, ?_⟩
  · intro ty
    have hset : (setObj r (.mapIter (some b) ck (seen.push x.1.born) ck)).run P (w.drewN d) = .ok () ((w.drewN d).putObj r (.mapIter (some b) ck (seen.push x.1.born) ck)) := by
      simp [setObj, Sem.run, h4, World.putObj, World.drewN]
    have hne : L.isEmpty = false := by
      rw [Bool.eq_false_iff]; intro h; simp at h; rw [h] at hLs; simp at hLs
    have hsz : ((if L.isEmpty = true then #[none] else #[] : Array (Option MapEntry)) ++ (L ++ #[]).map some).size = L.size := by simp [hne]
    have hget : ((if L.isEmpty = true then #[none] else #[] : Array (Option MapEntry)) ++ (L ++ #[]).map some)[i]? = some (some x.1) := by simp [hne, hLi]
    simp only [Instr.next, Sem.run_bind, hgr, hgo, Result.andThen, hg, ← hL, a1, a2, hsz, Bool.false_eq_true, if_false, hch, hget, hset, hpair.1, hpair.2]
    rfl
  · intro hrb
    have hlt := (Array.getElem?_eq_some_iff.1 h4).1
    have g1 : ((w.drewN d).putObj r (.mapIter (some b) ck (seen.push x.1.born) ck)).heap[r]? = some (.mapIter (some b) ck (seen.push x.1.born) ck) := World.putObj_heap_same hlt
    have g2 : ((w.drewN d).putObj r (.mapIter (some b) ck (seen.push x.1.born) ck)).heap[b]? = some (.map es ck) := (World.putObj_heap_other (Ne.symm hrb)).trans h1
    have hfind : es.find? (fun e => e.born == x.1.born) = some x.1 := by
      have hxe : x.1 ∈ es.toList := (List.of_mem_zip (List.mem_filter.1 hxm).1).1
      rw [← Array.find?_toList]
      have key : ∀ (l : List MapEntry), l.Pairwise (fun a b => a.born < b.born) → x.1 ∈ l → l.find? (fun e => e.born == x.1.born) = some x.1 := by
        intro l
        induction l with
        | nil => intro _ h; cases h
        | cons a l ih =>
          intro hp hm
          rw [List.pairwise_cons] at hp
          rw [List.find?_cons]
          rcases List.mem_cons.1 hm with e | e
          · rw [← e]; simp
          · have := hp.1 _ e
            rw [beq_eq_false_iff_ne.2 (show a.born ≠ x.1.born by omega)]
            exact ih hp.2 e
      exact key _ h3.1 hxe
    generalize (w.drewN d).putObj r (.mapIter (some b) ck (seen.push x.1.born) ck) = W at g1 g2 ⊢
    have hgr' : (getObj r).run P W = .ok (.mapIter (some b) ck (seen.push x.1.born) ck) W := by simp [getObj, Sem.run, g1]
    have hgo' : (getObj b).run P W = .ok (.map es ck) W := by simp [getObj, Sem.run, g2]
    simp [Instr.entry, hgr', hgo', Result.andThen, hfind, hpair.1, hpair.2]
  · intro hrb
    have hlt := (Array.getElem?_eq_some_iff.1 h4).1
    refine ⟨es, ck, seen.push x.1.born, (World.putObj_heap_other (Ne.symm hrb)).trans h1, h2, h3, World.putObj_heap_same hlt, ?_, ?_⟩
    · have hp := filter_go (fun y : MapEntry × (K × V) => y.1.born) (es.toList.zip kv) ?_ seen x hxm
      · have hp2 := hp.map (·.2)
        have e : took ++ [x.2] ++ (leftOf es kv (seen.push x.1.born)).map (·.2) = took ++ (x :: leftOf es kv (seen.push x.1.born)).map (·.2) := by simp
        rw [e]
        exact (List.Perm.append_left took hp2).trans h5
      · have : ∀ (l : List MapEntry) (k : List (K × V)), l.Pairwise (fun a b => a.born < b.born) → (l.zip k).Pairwise (fun a b => a.1.born < b.1.born) := by
          intro l
          induction l with
          | nil => intro k _; simp
          | cons a l ih =>
            intro k hk
            cases k with
            | nil => simp
            | cons p k =>
              rw [List.zip_cons_cons, List.pairwise_cons]
              rw [List.pairwise_cons] at hk
              refine ⟨fun y hy => hk.1 _ (List.of_mem_zip hy).1, ih k hk.2⟩
        exact this _ _ h3.1
    · have hp := filter_go (fun y : MapEntry × (K × V) => y.1.born) (es.toList.zip kv) ?_ seen x hxm
      · have := hp.length_eq
        have h6' : ((es.toList.zip kv).filter fun x => !seen.contains x.1.born).length = n + 1 := h6
        rw [h6'] at this
        show ((es.toList.zip kv).filter _).length = n
        simpa using this
      · have : ∀ (l : List MapEntry) (k : List (K × V)), l.Pairwise (fun a b => a.born < b.born) → (l.zip k).Pairwise (fun a b => a.1.born < b.1.born) := by
          intro l
          induction l with
          | nil => intro k _; simp
          | cons a l ih =>
            intro k hk
            cases k with
            | nil => simp
            | cons p k =>
              rw [List.zip_cons_cons, List.pairwise_cons]
              rw [List.pairwise_cons] at hk
              refine ⟨fun y hy => hk.1 _ (List.of_mem_zip hy).1, ih k hk.2⟩
        exact this _ _ h3.1
end
end Go.Proofs.YtfbjiaedfmdcfaaGreatDoor

/-! ## Coll -/
namespace Go.Proofs.YtfbjiaedfmdcfaaGreatDoor
open Go.RowKit Go.Shelf

attribute [local go_sem] Oper.semAt_some

noncomputable def rangeLeft (w : World) (r b : Nat) : Nat :=
  match w.heap[r]?, w.heap[b]? with
  | some (.mapIter _ _ seen _), some (.map es _) => (es.toList.filter fun e => !seen.contains e.born).length
  | _, _ => 0
theorem rangeLeft_eq {K V : Type} {enc : K → Value} {encV : V → Value} {kv took : List (K × V)} {w : World} {r b n : Nat} (h : RangeAt w r b enc encV kv took n) : rangeLeft w r b = n := by
  obtain ⟨es, ck, seen, h1, h2, h3, h4, h5, h6⟩ := h
  have hl : es.toList.length = kv.length := by simpa using congrArg List.length h2
  unfold rangeLeft
  rw [h4, h1]
  simp only
  rw [← leftOf_fst (kv := kv) seen hl, List.length_map, h6]

theorem grownBy_drewN (W : World) (d : Nat) (row : Option Nat) : W.grownBy (W.drewN d) row := ⟨rfl, rfl, rfl, Nat.le_refl _, fun _ _ _ => rfl⟩
theorem abides_new {β : Type} {J : β → World → Prop} {B : Nat} (hJ : AbidesFrom B J) {s : β} {W : World} (h : J s W) (o : Obj) : J s (W.alloc o) :=
  hJ s W _ none h (World.grownBy_alloc W o none) (fun r e => by cases e)

set_option maxRecDepth 100000 in
set_option maxHeartbeats 1000000 in
theorem values1_in (F : Fence) (n : Nat) (hf : F.fn 107) (hro : F.round = none) (hn : 1 ≤ n) (l Bm b : Nat) (kv : List (St × Ino)) (J Jx : List Ino → World → Prop) (W : World)
    (hJ : AbidesFrom W.heap.size J)
    (hY : ∀ pre x W1, J pre W1 → pre.length < kv.length → YieldAt F (n - 1) Tryz.prog l #[x.v] W1 fun e W' =>
      (e = .returned (.bool true) ∧ J (pre ++ [x]) W' ∧ KeepsWalks W1 W') ∨ (e = .returned (.bool false) ∧ Jx (pre ++ [x]) W'))
    (hm : W.cell? ⟨Bm, 0, none⟩ = some (.map (some b))) (hk : MapAt W b St.v Ino.v kv) (h0 : J [] W) :
    CallsIn F n Tryz.prog 107 #[.func (.yield l) #[] #[], .pointer (some ⟨Bm, 0, none⟩)] W fun e W' => (∃ v, e = .returned v) ∧
      ((∃ xs, xs.Perm (kv.map (·.2)) ∧ J xs W') ∨ (∃ pre, True ∧ Jx pre W')) := by
  obtain ⟨w1, hrun, hN, hR0⟩ := run_range_kv (P := Tryz.prog) Tryz.underlying97 hk
  have hbl : b < W.heap.size := by obtain ⟨es, ck, h, _⟩ := hk; exact (Array.getElem?_eq_some_iff.1 h).1
  have hJ1 : J [] w1 := hJ [] W w1 none h0 ⟨hN.os, hN.tape, hN.output, hN.size, fun k hk _ => hN.block k hk⟩ (fun r e => by cases e)
  have HJ := Lib.hid hJ
  have HK := Lib.hid hk
  have HR0 := Lib.hid hR0
  have HJ1 := Lib.hid hJ1
  have HN := Lib.hid hN
  clear hJ hk hR0 h0 hJ1 hN
  refine callsIn_of_wp Tryz.func107 rfl hf ?_ hro
  simp only [Tryz.ntmps107, List.size_toArray, List.length_cons, List.length_nil, Nat.reduceAdd, Nat.reduceSub, Array.replicate_succ, Array.replicate_zero, List.push_toArray, List.append_toArray, List.nil_append, List.cons_append]
  gi_wp2
  gi_loopw [4] (fun _ wr => ∃ (took : List (St × Ino)) (k : Nat), Hid (RangeAt wr W.heap.size b St.v Ino.v kv took k) ∧ Hid (J (took.map (·.2)) wr) ∧ Hid (W.heap.size < wr.heap.size) ∧ took.length + k = kv.length) (fun _ wr => rangeLeft wr W.heap.size b)
  case atStart =>
    exact ⟨[], kv.length, HR0, HJ1, Lib.hid (by have := HN.out.size; have := (HR0.out).iter; obtain ⟨_, _, _, _, hi⟩ := this; exact (Array.getElem?_eq_some_iff.1 hi).1), by simp⟩
  case round =>
    obtain ⟨took, k, hR, hj, hlt, hlen⟩ := hrel
    cases k with
    | zero =>
      obtain ⟨hp, hnx⟩ := run_next_done (P := Tryz.prog) hR.out 0
      have hnx' : ∀ ty, (Instr.next (.pointer (some ⟨W.heap.size, 0, none⟩)) false ty).run Tryz.prog wr = .ok (.tuple #[.bool false]) wr := fun ty => (run_next_done (P := Tryz.prog) hR.out ty).2
      clear hnx hR
      gi_wp2
      go_end0
      exact ⟨⟨_, rfl⟩, .inl ⟨_, hp.map _, hj.out⟩⟩
    | succ k =>
      obtain ⟨p, d, o, hnx, ho, hen, hR2⟩ := run_next_step (P := Tryz.prog) hR.out
      obtain ⟨W2, hW2⟩ : ∃ W2, W2 = (wr.drewN d).putObj W.heap.size o := ⟨_, rfl⟩
      have hsz2 : W2.heap.size = wr.heap.size := by rw [hW2]; simp [World.drewN]
      have hj2 : J (took.map (·.2)) W2 := by
        rw [hW2]
        exact HJ.out _ _ _ (some W.heap.size) (HJ.out _ _ _ none hj.out (grownBy_drewN wr d none) (fun r e => by cases e)) (grownBy_putObj' _ _ _) (fun r e => by cases e; obtain ⟨m, s, q, l, hi⟩ := hR.out.iter; exact ⟨Nat.le_refl _, _, hi, rfl⟩)
      rw [← hW2] at hnx hen hR2
      have HX := Lib.hid hW2
      clear hW2
      have hne : W.heap.size ≠ b := by omega
      have hen' : (Instr.entry (.pointer (some ⟨W.heap.size, 0, none⟩))).run Tryz.prog W2 = .ok (.tuple #[.agg #[.int .i64 p.1.t, .int .i64 p.1.r], .agg #[.int .i64 p.2.id.t, .int .i64 p.2.id.r, .int .i64 p.2.kind, .int .i64 p.2.links, .int .i64 p.2.mode, .string p.2.data]]) W2 := hen hne
      have HR2 := Lib.hid (hR2 hne)
      have HRr := hR
      clear hen hR2 ho hR
      have hj3 : J (took.map (·.2)) (W2.alloc (.cells #[.int .i64 p.2.id.t, .int .i64 p.2.id.r, .int .i64 p.2.kind, .int .i64 p.2.links, .int .i64 p.2.mode, .string p.2.data] 28)) := abides_new HJ.out hj2 _
      have hlen' : (took.map (·.2)).length < kv.length := by simp; omega
      obtain ⟨fn, tmps, assign, body, hy, hRR⟩ := hY (took.map (·.2)) p.2 _ hj3 hlen'
      dsimp only [Ino.v] at hy
      gi_wp2
      refine hRR.mono ?_
      rintro e W4 (⟨rfl, hJ4, hk4⟩ | ⟨rfl, hJx4⟩)
      · have HJ4 := Lib.hid hJ4
        have HR4 : Hid (RangeAt W4 W.heap.size b St.v Ino.v kv (took ++ [p]) k) := by
          obtain ⟨m, s, q, l', hi⟩ := HR2.out.iter
          obtain ⟨es, ck, hes, _⟩ := HR2.out.map
          have h1 := (Array.getElem?_eq_some_iff.1 hi).1
          have h2 := (Array.getElem?_eq_some_iff.1 hes).1
          exact Lib.hid (HR2.out.kept
            ((hk4.2 b _ ((Below.heap_alloc W2 _ b h2).trans hes) rfl).trans hes.symm)
            ((hk4.2 _ _ ((Below.heap_alloc W2 _ _ h1).trans hi) rfl).trans hi.symm))
        have hsz4 : Hid (W.heap.size < W4.heap.size) := Lib.hid (by have := hk4.1; have := hlt.out; simp only [World.size_alloc] at *; omega)
        clear hJ4 hk4
        gi_wp2
        go_roundw
        case rel => exact ⟨took ++ [p], k, HR4, by rw [List.map_append]; exact HJ4, hsz4, by simp; omega⟩
        case measure => rw [rangeLeft_eq HR4.out, rangeLeft_eq HRr.out]; omega
      · gi_wp2
        refine bodyPost_ret (results_none rfl _ _ _) rfl ?_
        exact ⟨⟨_, rfl⟩, .inr ⟨_, trivial, hJx4⟩⟩

/-- a variable of several cells -/
theorem heapAt_own (B : Nat) (cs : Array Value) (t : TypeId) : Own (fun (_ : Unit) (W : World) => W.heap[B]? = some (.cells cs t (0, 0))) := by
  intro s W W' row h hg hr
  refine (hg.block B (Array.getElem?_eq_some_iff.1 h).1 fun e => ?_).trans h
  obtain ⟨o, ho, hc⟩ := hr B e.symm
  rw [h] at ho; cases ho; cases hc

theorem cells_new (w : World) (cs : List Value) (t : TypeId) : ∀ j u, cs[j]? = some u → (w.alloc (.cells cs.toArray t)).cell? ((⟨w.heap.size, 0, none⟩ : Addr).add j) = some u := by
  intro j u hj
  have e : ((⟨w.heap.size, 0, none⟩ : Addr).add j) = ⟨w.heap.size, j, none⟩ := by cases j <;> simp [Addr.add]
  have h := World.alloc_heap_new w (.cells cs.toArray t)
  rw [e]
  unfold World.cell?
  simp only [h]
  simpa using hj
theorem infoIno : (Tryz.prog.info? 28).map (fun i => (i.zero, i.size, i.bytes)) = some (some (.agg #[.int .i64 0, .int .i64 0, .int .i64 0, .int .i64 0, .int .i64 0, .string ⟨#[]⟩]), 6, 56) := by kernel_rfl

set_option maxRecDepth 100000 in
set_option maxHeartbeats 2000000 in
theorem appendSeq_in (F : Fence) (n : Nat) (hf : F.fn 146) (hro : F.round = none) (hn : 4 ≤ n) (g : Nat) (lb : Array Value) (hFg : F.fn g) (eg : ∀ args w, (callFunc g args).run Tryz.prog w = .ok (.enter g args) w)
    (S Sp : List Ino → Prop) (N : Nat) (hN : N ≤ 100000) (w : World) (hseq : SeqStopsK F (n - 1) Tryz.prog g lb (fun x : Ino => #[x.v]) KeepsWalks S Sp N w) :
    CallsIn F n Tryz.prog 146 #[.slice none 0 0, .func (.func g) #[] lb] w fun e w' => ∃ v xs, e = .returned v ∧ S xs ∧ w'.ownsRow w.heap.size 28 6 v xs.length (xs.flatMap Ino.cells) ∧ Below w.heap.size w w' := by
  have h1 : 1 ≤ n := by omega
  obtain ⟨i0, hinf, hz0, hz1, hz2⟩ := info_parts infoIno
  refine callsIn_of_wp_marks Tryz.func146 rfl hf ?_ hro
  simp only [Tryz.ntmps146, List.size_toArray, List.length_cons, List.length_nil, Nat.reduceAdd, Nat.reduceSub, Array.replicate_succ, Array.replicate_zero, List.push_toArray, List.append_toArray, List.nil_append, List.cons_append]
  gi_wp2
  have bS := Boxed.new w 73 (.slice none 0 0)
  obtain ⟨W0, hW0⟩ : ∃ W0, w.alloc (.cells #[.slice none 0 0] 73) = W0 := ⟨_, rfl⟩
  have hB0 : Below w.heap.size w W0 := by rw [← hW0]; exact (Below.refl _ w).alloc (Nat.le_refl _) _
  have hsz : W0.heap.size = w.heap.size + 1 := by rw [← hW0]; simp
  rw [hW0] at bS ⊢
  clear hW0
  refine wpIn_rangeFunc_ownH hro h1 (gf := g) (lb := lb) rfl hFg eg hseq walksK_t (walksK_b (w := W0)) hB0 (fun _ => rfl)
    (fun pre W => (∃ v, Boxed W w.heap.size 73 v ∧ W.ownsRow w.heap.size 28 6 v pre.length (pre.flatMap Ino.cells) ∧ True) ∧ Below w.heap.size w W)
    (fun _ _ _ => False)
    (OwnFrom.and (Own.from (holdsRow_own w.heap.size w.heap.size 73 28 6 (fun pre : List Ino => pre.length) (fun pre => pre.flatMap Ino.cells) (fun _ _ => True)) _) (ownFrom_below (Nat.le_refl _) (by omega)))
    (fun _ _ _ _ _ hs _ _ => hs)
    ⟨⟨_, bS, World.ownsRow_nil _ _ _ _, trivial⟩, hB0⟩
    (fun x a' W => ∃ Bx, W.heap[Bx]? = some (Obj.cells #[.int .i64 x.id.t, .int .i64 x.id.r, .int .i64 x.kind, .int .i64 x.links, .int .i64 x.mode, .string x.data] 28 (0, 0)) ∧ a' = { tmps := #[.slice none 0 0, .func (.func g) #[] lb, .pointer (some ⟨w.heap.size, 0, none⟩), undef, .slice none 0 0, .pointer (some ⟨Bx, 0, none⟩), .func (.func g) #[] lb, .agg #[.int .i64 x.id.t, .int .i64 x.id.r, .int .i64 x.kind, .int .i64 x.links, .int .i64 x.mode, .string x.data], undef, undef, undef, undef, undef], defers := [] })
    (fun x a' _ X Y row hs hg hr => by obtain ⟨Bx, h1, h2⟩ := hs; exact ⟨Bx, heapAt_own Bx #[.int .i64 x.id.t, .int .i64 x.id.r, .int .i64 x.kind, .int .i64 x.links, .int .i64 x.mode, .string x.data] 28 () X Y row h1 hg (fun r e => (hr r e).2), h2⟩)
    ?assign ?body ?done ?stop
  case assign =>
    rintro l pre x W K ⟨⟨v, bV, hrow, _⟩, hB1⟩ hK
    unfold Ino.v
    gi_wp2
    refine hK _ _ ((KeepsOthers.alloc _ _).from _) (KeepsWalks.alloc _ _) ⟨⟨v, bV.alloc _, hrow.alloc _, trivial⟩, hB1.alloc hB1.size _⟩ ⟨W.heap.size, World.alloc_heap_new W _, rfl⟩
  case body =>
    rintro l pre x a' W hl _ ⟨⟨v, bV, hrow, _⟩, hB1⟩ ⟨Bx, bX, rfl⟩ hlt
    have hsize := hB1.size
    have hc := bV.cell
    have hx0 : W.cell? ⟨Bx, 0, none⟩ = some (.int .i64 x.id.t) := by simp [World.cell?, bX]
    have hx1 : W.cell? ⟨Bx, 1, none⟩ = some (.int .i64 x.id.r) := by simp [World.cell?, bX]
    have hx2 : W.cell? ⟨Bx, 2, none⟩ = some (.int .i64 x.kind) := by simp [World.cell?, bX]
    have hx3 : W.cell? ⟨Bx, 3, none⟩ = some (.int .i64 x.links) := by simp [World.cell?, bX]
    have hx4 : W.cell? ⟨Bx, 4, none⟩ = some (.int .i64 x.mode) := by simp [World.cell?, bX]
    have hx5 : W.cell? ⟨Bx, 5, none⟩ = some (.string x.data) := by simp [World.cell?, bX]
    have hcn : ∀ j u, x.cells[j]? = some u → (W.alloc (.cells #[.int .i64 x.id.t, .int .i64 x.id.r, .int .i64 x.kind, .int .i64 x.links, .int .i64 x.mode, .string x.data] 28)).cell? ((⟨W.heap.size, 0, none⟩ : Addr).add j) = some u := cells_new W x.cells 28
    gi_wp2_with (gi_at_builtin; refine wpListIn_append_own _ rfl _ _ 73 rfl w.heap.size 28 i0 _ 6 56 Tryz.underlying73 hinf hz0 hz1 hz2 rfl (by decide) _ _ _ rfl (hrow.alloc _) ⟨W.heap.size, 0, none⟩ 1 1 x.cells rfl rfl hcn (by simp [Ino.cells, Value.oneCell']) (by simp only [maxLen]; omega) (by omega) (by simp; omega) ?_; intro v' w1 hown' hgrow _; obtain ⟨g', cap', rfl⟩ := ownsRow_succ hown'; obtain ⟨hv1, hv2, hr2, hk2, hb2⟩ := bV.appended (by decide) hrow hB1.size (Nat.le_refl _) hown' hgrow; have hc1 := hv1.cell; have hf1 := hv1.frozen)
    refine ⟨hk2.from _, hk2.walks, ⟨_, hv2, by simpa using hr2, trivial⟩, hB1.trans hb2⟩
  case done =>
    rintro D xs W hD hS ⟨⟨v, bV, hrow, _⟩, hB1⟩ hK
    have hc := bV.cell
    gi_wp2
    refine ⟨by simp, .inl ⟨_, _, rfl, run_takeDeferred hK, ?_⟩⟩
    exact ⟨_, results_tmp rfl _ _ _, v, xs, rfl, hS, ownsRow_putObj hrow _ hK rfl, hB1.trans (belowK_b (w := w) (Nat.le_refl _) W D _ _ (by omega) hK rfl rfl)⟩
  case stop =>
    rintro D c pre W _ _ h _
    exact h.elim
end Go.Proofs.YtfbjiaedfmdcfaaGreatDoor

/-! ## App -/
namespace Go.Proofs.YtfbjiaedfmdcfaaGreatDoor
open Go.RowKit Go.Shelf

theorem flatMap_at {α β : Type} [Inhabited α] (f : α → List β) (k : Nat) (hk : ∀ x, (f x).length = k) (zs : List α) (j i : Nat) (hj : j < zs.length) (hi : i < k) : (zs.flatMap f)[j * k + i]? = (f zs[j]!)[i]? := by
  induction zs generalizing j with
  | nil => simp at hj
  | cons z zs ih =>
    rw [List.flatMap_cons]
    cases j with
    | zero => rw [List.getElem?_append_left (by rw [hk]; omega)]; simp
    | succ j =>
      rw [List.getElem?_append_right (by rw [hk]; rw [Nat.succ_mul]; omega), hk]
      have e : (j + 1) * k + i - k = j * k + i := by rw [Nat.succ_mul]; omega
      rw [e, ih j (by simpa using hj)]
      simp

theorem flatMap_len {α β : Type} (f : α → List β) (k : Nat) (hk : ∀ x, (f x).length = k) (zs : List α) : (zs.flatMap f).length = zs.length * k := by
  induction zs with
  | nil => simp
  | cons z zs ih => rw [List.flatMap_cons, List.length_append, hk, ih, List.length_cons, Nat.succ_mul]; omega

/-- what the call's own slice holds is a list -/
theorem SlAt.of_row {α : Type} [Inhabited α] {W : World} {B k : Nat} {t : TypeId} {enc : α → List Value} {v : Value} {zs : List α} (hk : ∀ x, (enc x).length = k) (h : W.ownsRow B t k v zs.length (zs.flatMap enc)) : SlAt W k enc v zs := by
  rcases h.2 with ⟨rfl, h0⟩ | ⟨g, cap, cur, rfl, _, hh, h1, h2, _, h4⟩
  · exact .inl ⟨none, 0, rfl, List.eq_nil_of_length_eq_zero h0⟩
  · refine .inr ⟨g, 0, cap, rfl, h1, h2, (Array.getElem?_eq_some_iff.1 hh).1, fun j hj i u hu => ?_⟩
    have hi : i < k := by have := (List.getElem?_eq_some_iff.1 hu).1; rw [hk] at this; exact this
    have hb : j * k + i < zs.length * k := by
      have : (j + 1) * k ≤ zs.length * k := Nat.mul_le_mul_right k hj
      rw [Nat.succ_mul] at this; omega
    have e : cur[0 + j * k + i]? = some u := by
      have := flatMap_at enc k hk zs j i hj hi
      rw [← h4, List.getElem?_take, if_pos hb, hu] at this
      rw [Nat.zero_add, ← Array.getElem?_toList]; exact this
    unfold World.cell?
    simp only [hh]
    simpa using e

theorem Ino.one (x : Ino) : ∀ u ∈ x.cells, u.oneCell' = true := by
  intro u hu; simp [Ino.cells] at hu; rcases hu with rfl | rfl | rfl | rfl | rfl | rfl <;> rfl
theorem Ent.one (x : Ent) : ∀ u ∈ x.cells, u.oneCell' = true := by
  intro u hu; simp [Ent.cells] at hu; rcases hu with rfl | rfl | rfl | rfl | rfl <;> rfl
end Go.Proofs.YtfbjiaedfmdcfaaGreatDoor

/-! ## Back -/
namespace Go.Proofs.YtfbjiaedfmdcfaaGreatDoor
open Go.RowKit Go.Shelf

attribute [local go_sem] Oper.semAt_some

theorem wrapInt (i : Int) (h1 : -9223372036854775808 ≤ i) (h2 : i < 9223372036854775808) : IntKind.i64.wrap i = i := by
  rw [IntWalk.i64_left]
  unfold wrap64
  omega

def intOf : Value → Int | .int _ i => i | _ => 0

end Go.Proofs.YtfbjiaedfmdcfaaGreatDoor

/-! ## Entry -/
namespace Go.Proofs.YtfbjiaedfmdcfaaGreatDoor
open Go.RowKit

section
variable {K V : Type} [DecidableEq K] {P : Program} {kt et T : TypeId} {enc : K → Value} {encV : V → Value} {kv : List (K × V)} {w : World} {b : Nat}

end
end Go.Proofs.YtfbjiaedfmdcfaaGreatDoor

/-! ## AudF -/
namespace Go.Proofs.YtfbjiaedfmdcfaaGreatDoor
open Go.RowKit Go.Shelf

instance : Inhabited {x : Ent // x.name.size ≤ maxLen} := ⟨⟨⟨⟨0, 0⟩, ⟨#[]⟩, ⟨0, 0⟩⟩, by decide⟩⟩

end Go.Proofs.YtfbjiaedfmdcfaaGreatDoor

/-! ## Seen -/
namespace Go.Proofs.YtfbjiaedfmdcfaaGreatDoor

end Go.Proofs.YtfbjiaedfmdcfaaGreatDoor

/-! ## AudG -/
namespace Go.Proofs.YtfbjiaedfmdcfaaGreatDoor
open Go.RowKit Go.Shelf

theorem mapAt_new {K V : Type} (w : World) (enc : K → Value) (encV : V → Value) : MapAt (w.alloc (.map #[] 0)) w.heap.size enc encV [] :=
  ⟨#[], 0, World.alloc_heap_new w _, rfl, by simp [BornOk]⟩

end Go.Proofs.YtfbjiaedfmdcfaaGreatDoor

/-! ## AudH -/
namespace Go.Proofs.YtfbjiaedfmdcfaaGreatDoor
open Go.RowKit Go.Shelf

attribute [local go_sem] Oper.semAt_some

theorem cell_at {W : World} {b : Nat} {cs : Array Value} {t : TypeId} {fz : Nat × Nat} (h : W.heap[b]? = some (.cells cs t fz)) (i : Nat) (v : Value) (hv : cs[i]? = some v) : W.cell? ⟨b, i, none⟩ = some v := by
  unfold World.cell?
  simp only [h]
  simpa using hv
theorem frozen_at {W : World} {b : Nat} {cs : Array Value} {t : TypeId} (h : W.heap[b]? = some (.cells cs t (0, 0))) (i : Nat) : W.frozen? ⟨b, i, none⟩ = false := by
  unfold World.frozen?
  simp only [h]
  simp

theorem heap_setCell_at {W : World} {B : Nat} {cs : Array Value} {t : TypeId} {fz : Nat × Nat} (h : W.heap[B]? = some (.cells cs t fz)) (i : Nat) (v : Value) : (W.setCell ⟨B, i, none⟩ v).heap[B]? = some (.cells (cs.setIfInBounds i v) t fz) := by
  obtain ⟨hlt, hk⟩ := Array.getElem?_eq_some_iff.1 h
  show (W.heap.modify B _)[B]? = _
  rw [Array.getElem?_eq_getElem (by rw [Array.size_modify]; exact hlt), Array.getElem_modify_self, hk]
  rfl

end Go.Proofs.YtfbjiaedfmdcfaaGreatDoor

/-! ## AudI -/
namespace Go.Proofs.YtfbjiaedfmdcfaaGreatDoor
open Go.RowKit Go.Shelf

open Classical in
theorem ownsRow_below {W W' : World} {base : Nat} {t : TypeId} {size : Nat} {v : Value} {k : Nat} {xs : List Value} (h : W.ownsRow base t size v k xs) (hb : Below W.heap.size W W') : W'.ownsRow base t size v k xs := by
  refine ⟨h.1, ?_⟩
  rcases h.2 with h0 | ⟨g, cap, cur, hv, hg, hh, h1, h2, h3, h4⟩
  · exact .inl h0
  · exact .inr ⟨g, cap, cur, hv, hg, (hb.block g (Array.getElem?_eq_some_iff.1 hh).1).trans hh, h1, h2, h3, h4⟩

theorem ownsRow_mono {W : World} {base B : Nat} {t : TypeId} {size : Nat} {v : Value} {k : Nat} {xs : List Value} (h : W.ownsRow base t size v k xs) (hb : B ≤ base) : W.ownsRow B t size v k xs := by
  refine ⟨h.1, ?_⟩
  rcases h.2 with h0 | ⟨g, cap, cur, hv, hg, rest⟩
  · exact .inl h0
  · exact .inr ⟨g, cap, cur, hv, Nat.le_trans hb hg, rest⟩

end Go.Proofs.YtfbjiaedfmdcfaaGreatDoor

/-! ## AudJ -/
namespace Go.Proofs.YtfbjiaedfmdcfaaGreatDoor
open Go.RowKit Go.Shelf

theorem ownsRow_len {W : World} {base : Nat} {t : TypeId} {size : Nat} {v : Value} {k : Nat} {xs : List Value} (h : W.ownsRow base t size v k xs) : ∃ a c, v = .slice a k c := by
  rcases h.2 with ⟨rfl, rfl⟩ | ⟨g, cap, cur, rfl, _⟩
  · exact ⟨none, 0, rfl⟩
  · exact ⟨_, _, rfl⟩

end Go.Proofs.YtfbjiaedfmdcfaaGreatDoor

/-! ## Without -/
namespace Go.Proofs.YtfbjiaedfmdcfaaGreatDoor
open Go.RowKit Go.Shelf

theorem infoEnt : (Tryz.prog.info? 125).map (fun i => (i.zero, i.size, i.bytes)) = some (some (.agg #[.int .i64 0, .int .i64 0, .string ⟨#[]⟩, .int .i64 0, .int .i64 0]), 5, 48) := by kernel_rfl

theorem rowGe {W : World} {base : Nat} {t : TypeId} {size : Nat} {v : Value} {k : Nat} {xs : List Value} (h : W.ownsRow base t size v k xs) {j : Nat} (hj : v.ownBlock = some j) : base ≤ j := by
  rcases h.2 with ⟨rfl, _⟩ | ⟨g, cap, cur, rfl, hg, _⟩
  · simp [Value.ownBlock] at hj
  · simp [Value.ownBlock] at hj; omega

end Go.Proofs.YtfbjiaedfmdcfaaGreatDoor
