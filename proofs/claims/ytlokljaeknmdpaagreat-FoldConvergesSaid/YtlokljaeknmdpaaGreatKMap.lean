/-
  Words and laws that all walks of this seat share: worlds that only grow, maps with struct keys as lists, slices of structs as lists; no condition. · Maps whose keys are stamps, as lists of pairs: lookup, store, delete, len; no condition. · Ranging over a map: what is left, what has come; no condition.
-/
import Derived.Test.YtlokljaeknmdpaaGreatRows
import Derived.WalkKit
import Derived.WalkSpells
import Derived.WalkLawsBesides
import Derived.Lib.Hide
import Derived.Lib.Bytealg
import Derived.Lib.MinMax
import Derived.Deep.QuietTactic
import Derived.BigQuiet
import Derived.RangeFuncRecord
import Derived.Sort.Grow
import Derived.StillTailTactics
/-! ## Base -/
namespace Go.Proofs.YtlokljaeknmdpaaGreat
open Go.RowKit

/-! ### worlds that only grow, and draw -/

/-- everything that was there is as it was; new blocks, draws -/
structure New (w w' : World) : Prop where
  os : w'.os = w.os
  tape : w'.tape = w.tape
  output : w'.output = w.output
  size : w.heap.size ≤ w'.heap.size
  block : ∀ k, k < w.heap.size → w'.heap[k]? = w.heap[k]?
  drawn : w.drawn ≤ w'.drawn

theorem New.refl (w : World) : New w w := ⟨rfl, rfl, rfl, Nat.le_refl _, fun _ _ => rfl, Nat.le_refl _⟩
theorem New.trans {a b c : World} (h : New a b) (k : New b c) : New a c :=
  ⟨k.os.trans h.os, k.tape.trans h.tape, k.output.trans h.output, Nat.le_trans h.size k.size, fun i hi => (k.block i (Nat.lt_of_lt_of_le hi h.size)).trans (h.block i hi), Nat.le_trans h.drawn k.drawn⟩
theorem New.below {w w' : World} (h : New w w') : Below w.heap.size w w' := ⟨h.os, h.tape, h.output, h.size, h.block⟩
theorem New.alloc' (w : World) (o : Obj) : New w (w.alloc o) := ⟨rfl, rfl, rfl, by simp, fun k hk => Below.heap_alloc w o k hk, Nat.le_refl _⟩
theorem New.drew' (w : World) : New w w.drew := ⟨rfl, rfl, rfl, Nat.le_refl _, fun _ _ => rfl, Nat.le_succ _⟩
theorem New.drewN' (w : World) (n : Nat) : New w (w.drewN n) := ⟨rfl, rfl, rfl, Nat.le_refl _, fun _ _ => rfl, Nat.le_add_right _ _⟩
theorem New.alloc {w w' : World} (h : New w w') (o : Obj) : New w (w'.alloc o) := h.trans (New.alloc' w' o)
theorem New.drew {w w' : World} (h : New w w') : New w w'.drew := h.trans (New.drew' w')
theorem New.drewN {w w' : World} (h : New w w') (n : Nat) : New w (w'.drewN n) := h.trans (New.drewN' w' n)
/-- a store into a block that is new -/
theorem New.setCell {w w' : World} (h : New w w') (a : Addr) (v : Value) (ha : w.heap.size ≤ a.block) : New w (w'.setCell a v) :=
  ⟨h.os, h.tape, h.output, by simpa using h.size, fun k hk => (heap_setCell_other w' a k v (by omega)).trans (h.block k hk), h.drawn⟩
theorem New.cell {w w' : World} (h : New w w') {a : Addr} {v : Value} (hc : w.cell? a = some v) : w'.cell? a = some v := by
  have hlt := block_lt_of_cell hc
  unfold World.cell? at hc ⊢
  rw [h.block _ hlt]; exact hc
theorem New.heap {w w' : World} (h : New w w') {b : Nat} {o : Obj} (hc : w.heap[b]? = some o) : w'.heap[b]? = some o :=
  (h.block b (Array.getElem?_eq_some_iff.1 hc).1).trans hc
theorem New.of_grown {w w' : World} {row : Option Nat} {w0 : World} (h : New w0 w) (hg : w.grownBy w' row) (hd : w.drawn ≤ w'.drawn) (hr : ∀ k, row = some k → w0.heap.size ≤ k) : New w0 w' :=
  ⟨hg.os.trans h.os, hg.tape.trans h.tape, hg.output.trans h.output, Nat.le_trans h.size hg.size,
    fun k hk => (hg.block k (Nat.lt_of_lt_of_le hk h.size) (fun e => by have := hr k e.symm; omega)).trans (h.block k hk), Nat.le_trans h.drawn hd⟩

/-- what the sort asks of a comparison -/
theorem New.grow {w w' : World} (h : New w w') : ∃ q os, w' = Sort.grow (w.drewN q) os := by
  refine ⟨w'.drawn - w.drawn, w'.heap.extract w.heap.size w'.heap.size, ?_⟩
  have e : w'.heap = w.heap ++ w'.heap.extract w.heap.size w'.heap.size := by
    apply Array.ext_getElem?
    intro i
    by_cases hi : i < w.heap.size
    · rw [h.block i hi, Array.getElem?_append_left hi]
    · rw [Array.getElem?_append_right (by omega), Array.getElem?_extract]
      have := h.size
      by_cases hj : i < w'.heap.size
      · rw [if_pos (by omega)]; congr 1; omega
      · rw [if_neg (by omega), Array.getElem?_eq_none (by omega)]
  cases w' with
  | mk heap tape drawn os output =>
    have h1 := h.os; have h2 := h.tape; have h3 := h.output; have h4 := h.drawn
    simp only at h1 h2 h3 h4 e
    unfold Sort.grow World.drewN
    simp only [World.mk.injEq]
    exact ⟨e, h2, by omega, h1, h3⟩

theorem New.of_growN (w : World) (q : Nat) (os : Array Obj) : New w (Sort.grow (w.drewN q) os) :=
  ⟨rfl, rfl, rfl, by simp [Sort.grow], fun k hk => by
    show (w.heap ++ os)[k]? = _
    rw [Array.getElem?_append_left hk], Nat.le_add_right _ _⟩

/-! ### a block that is put anew -/
theorem putObj_cell {w : World} {b : Nat} {o o' : Obj} (hb : w.heap[b]? = some o) (h : ∀ c e f, o ≠ .cells c e f) (h' : ∀ c e f, o' ≠ .cells c e f) (a : Addr) : (w.putObj b o').cell? a = w.cell? a := by
  have hlt := (Array.getElem?_eq_some_iff.1 hb).1
  unfold World.cell?
  by_cases e : a.block = b
  · rw [e, World.putObj_heap_same hlt, hb]
    cases o <;> cases o' <;> first | rfl | exact absurd rfl (h _ _ _) | exact absurd rfl (h' _ _ _)
  · rw [World.putObj_heap_other e]
theorem putObj_frozen {w : World} {b : Nat} {o o' : Obj} (hb : w.heap[b]? = some o) (h : ∀ c e f, o ≠ .cells c e f) (h' : ∀ c e f, o' ≠ .cells c e f) (a : Addr) : (w.putObj b o').frozen? a = w.frozen? a := by
  have hlt := (Array.getElem?_eq_some_iff.1 hb).1
  unfold World.frozen?
  by_cases e : a.block = b
  · rw [e, World.putObj_heap_same hlt, hb]
    cases o <;> cases o' <;> first | rfl | exact absurd rfl (h _ _ _) | exact absurd rfl (h' _ _ _)
  · rw [World.putObj_heap_other e]
theorem New.putObj {w w' : World} (h : New w w') (b : Nat) (o : Obj) (hb : w.heap.size ≤ b) : New w (w'.putObj b o) :=
  ⟨h.os, h.tape, h.output, by simpa using h.size, fun k hk => (World.putObj_heap_other (by omega)).trans (h.block k hk), h.drawn⟩

/-! ### a region that draws its order: reads and quiet calls, then a tail in one forced order -/
theorem region_tail {P : Program} {id : Nat} {Q : Exit → Act → World → Prop} {a : Act} {w : World} {l : List Oper} (n : Nat) (hm : P.follows .mixedOrders = true) (hB : Region.lexTailB .any l.toArray n = true)
    (h : ∀ W, (∀ a, W.cell? a = w.cell? a) → W.heap = w.heap → New w W → wpStill P l.toArray W (fun a' => wpList P l.toArray Q (l.drop n) a' W) (l.take n) a) : (Code.region id l.toArray true).wp P Q a w :=
  wp_region_still_tail n hm hB (h w.drew (fun _ => rfl) rfl (New.drew' w))

/-! ### ranging over a string -/
theorem run_next_str {P : Program} (w : World) (r : Nat) (s : ByteArray) (pos : Nat) (ty : TypeId) (hw : w.heap[r]? = some (.stringIter s pos)) (h : pos < s.size) :
    (Instr.next (.pointer (some ⟨r, 0, none⟩)) true ty).run P w =
      .ok (.tuple #[.bool true, .int .i64 pos, .int .i32 (Utf8.decode s pos).1]) (w.putObj r (.stringIter s (pos + (Utf8.decode s pos).2))) := by
  simp only [Instr.next, getObj, setObj, Sem.run_bind, Sem.run, hw, Result.andThen, h, if_true]
  simp [goInt, World.putObj]
theorem run_next_strEnd {P : Program} (w : World) (r : Nat) (s : ByteArray) (pos : Nat) (ty : TypeId) (hw : w.heap[r]? = some (.stringIter s pos)) (h : ¬ pos < s.size) :
    (Instr.next (.pointer (some ⟨r, 0, none⟩)) true ty).run P w = .ok (.tuple #[.bool false]) w := by
  simp [Instr.next, getObj, Sem.run, hw, h]
end Go.Proofs.YtlokljaeknmdpaaGreat

/-! ## Maps -/
namespace Go.Proofs.YtlokljaeknmdpaaGreat
open Go.RowKit

/-- a stamp -/
structure St where
  t : Int
  r : Int
  deriving DecidableEq, Inhabited
def St.cells (s : St) : List Value := [.int .i64 s.t, .int .i64 s.r]
def St.v (s : St) : Value := .agg #[.int .i64 s.t, .int .i64 s.r]

/-- an inode -/
structure Ino where
  id : St
  kind : Int
  links : Int
  mode : Int
  data : ByteArray
  deriving DecidableEq, Inhabited
def Ino.cells (i : Ino) : List Value := [.int .i64 i.id.t, .int .i64 i.id.r, .int .i64 i.kind, .int .i64 i.links, .int .i64 i.mode, .string i.data]
def Ino.v (i : Ino) : Value := .agg #[.int .i64 i.id.t, .int .i64 i.id.r, .int .i64 i.kind, .int .i64 i.links, .int .i64 i.mode, .string i.data]

/-- an entry -/
structure Ent where
  at_ : St
  name : ByteArray
  ino : St
  deriving DecidableEq, Inhabited
def Ent.cells (e : Ent) : List Value := [.int .i64 e.at_.t, .int .i64 e.at_.r, .string e.name, .int .i64 e.ino.t, .int .i64 e.ino.r]
def Ent.v (e : Ent) : Value := .agg #[.int .i64 e.at_.t, .int .i64 e.at_.r, .string e.name, .int .i64 e.ino.t, .int .i64 e.ino.r]

/-- what is asked of a key type -/
structure KeyLaw {K : Type} [DecidableEq K] (P : Program) (kt : TypeId) (enc : K → Value) : Prop where
  check : ∀ e a w, (Instr.checkKey e 10000 kt (enc a)).run P w = .ok () w
  eq : ∀ a b w, (Op.equal kt (enc a) (enc b)).run P w = .ok (decide (a = b)) w
  desc : ∃ d, P.underlying kt = some d ∧ ∀ a b, Instr.sameNow d (enc a) (enc b) = none
  bits : ∀ a, Instr.sameBits 10000 (enc a) (enc a) = true

/-- the place of a key in a list of pairs -/
def findKV {K V : Type} [DecidableEq K] (k : K) : List (K × V) → Nat → Option (Nat × V)
  | [], _ => none
  | (a, v) :: l, i => if k = a then some (i, v) else findKV k l (i + 1)
def getKV {K V : Type} [DecidableEq K] (k : K) : List (K × V) → Option V
  | [] => none
  | (a, v) :: l => if k = a then some v else getKV k l
def putKV {K V : Type} [DecidableEq K] (k : K) (x : V) : List (K × V) → List (K × V)
  | [] => [(k, x)]
  | (a, v) :: l => if k = a then (k, x) :: l else (a, v) :: putKV k x l
def delKV {K V : Type} [DecidableEq K] (k : K) : List (K × V) → List (K × V)
  | [] => []
  | (a, v) :: l => if k = a then l else (a, v) :: delKV k l

theorem findKV_get {K V : Type} [DecidableEq K] (k : K) : ∀ (l : List (K × V)) (i : Nat), (findKV k l i).map (·.2) = getKV k l
  | [], _ => rfl
  | (a, v) :: l, i => by
    unfold findKV getKV
    by_cases h : k = a
    · rw [if_pos h, if_pos h]; rfl
    · rw [if_neg h, if_neg h]; exact findKV_get k l (i + 1)
theorem findKV_put {K V : Type} [DecidableEq K] (k : K) (x : V) : ∀ (l : List (K × V)) (i j : Nat) (v : V), findKV k l i = some (j, v) → i ≤ j ∧ j - i < l.length ∧ putKV k x l = l.set (j - i) (k, x) ∧ (l[j - i]?).map (·.1) = some k ∧ delKV k l = l.eraseIdx (j - i)
  | [], _, _, _, h => by simp [findKV] at h
  | (a, u) :: l, i, j, v, h => by
    unfold findKV at h
    by_cases e : k = a
    · rw [if_pos e] at h
      obtain ⟨rfl, rfl⟩ := Prod.mk.inj (Option.some.inj h)
      refine ⟨Nat.le_refl _, by simp, ?_, ?_, ?_⟩
      · simp [putKV, e]
      · simp [e]
      · simp [delKV, e]
    · rw [if_neg e] at h
      obtain ⟨h1, h2, h3, h4, h5⟩ := findKV_put k x l (i + 1) j v h
      have hj : j - i = (j - (i + 1)) + 1 := by omega
      refine ⟨by omega, by simp; omega, ?_, ?_, ?_⟩
      · rw [hj]; simp only [putKV, e, if_false, h3, List.set_cons_succ]
      · rw [hj]; simpa using h4
      · rw [hj]; simp only [delKV, e, if_false, h5, List.eraseIdx_cons_succ]
theorem findKV_none {K V : Type} [DecidableEq K] (k : K) (x : V) : ∀ (l : List (K × V)) (i : Nat), findKV k l i = none → putKV k x l = l ++ [(k, x)] ∧ delKV k l = l
  | [], _, _ => ⟨rfl, rfl⟩
  | (a, u) :: l, i, h => by
    unfold findKV at h
    by_cases e : k = a
    · rw [if_pos e] at h; cases h
    · rw [if_neg e] at h
      obtain ⟨h1, h2⟩ := findKV_none k x l (i + 1) h
      exact ⟨by simp [putKV, e, h1], by simp [delKV, e, h2]⟩

/-- the births of a map's entries rise -/
def BornOk (es : Array MapEntry) (ck : Nat) : Prop := es.toList.Pairwise (fun a b => a.born < b.born) ∧ ∀ e ∈ es.toList, e.born < ck

/-- block b is a map that holds these pairs, in this order -/
def MapAt {K V : Type} (w : World) (b : Nat) (enc : K → Value) (encV : V → Value) (kv : List (K × V)) : Prop :=
  ∃ es ck, w.heap[b]? = some (.map es ck) ∧ es.toList.map (fun e => (e.key, e.val)) = kv.map (fun p => (enc p.1, encV p.2)) ∧ BornOk es ck

section
variable {K V : Type} [DecidableEq K] {P : Program} {kt et T : TypeId} {enc : K → Value} {encV : V → Value} {kv : List (K × V)} {w : World} {b : Nat}

theorem run_findAsking (L : KeyLaw P kt enc) (k : K) : ∀ (es : List MapEntry) (kv : List (K × V)), es.map (fun e => (e.key, e.val)) = kv.map (fun p => (enc p.1, encV p.2)) → ∀ (i : Nat) (w : World),
    (Instr.findAsking kt (enc k) es i).run P w = .ok ((findKV k kv i).map fun p => (p.1, encV p.2)) w
  | [], [], _, i, w => rfl
  | [], _ :: _, h, _, _ => by simp at h
  | _ :: _, [], h, _, _ => by simp at h
  | e :: es, (a, v) :: kv, h, i, w => by
    simp only [List.map_cons, List.cons.injEq, Prod.mk.injEq] at h
    obtain ⟨⟨h1, h2⟩, h3⟩ := h
    simp only [Instr.findAsking, Sem.run_bind, h1, L.eq, Result.andThen, findKV]
    by_cases hk : k = a
    · simp [hk, h2]
    · simp only [hk, decide_false, if_false]
      exact run_findAsking L k es kv h3 (i + 1) w

theorem run_findKey (L : KeyLaw P kt enc) (k : K) (es : List MapEntry) (kv : List (K × V)) (h : es.map (fun e => (e.key, e.val)) = kv.map (fun p => (enc p.1, encV p.2))) (w : World) :
    (Instr.findKey kt (enc k) es).run P w = .ok ((findKV k kv 0).map fun p => (p.1, encV p.2)) w := by
  obtain ⟨d, hd, hs⟩ := L.desc
  cases es with
  | nil =>
    cases kv with
    | nil => simp [Instr.findKey, run_underlying hd, Instr.findNow, findKV]
    | cons p kv => simp at h
  | cons e es =>
    cases kv with
    | nil => simp at h
    | cons p kv =>
      have h' := h
      simp only [List.map_cons, List.cons.injEq, Prod.mk.injEq] at h'
      have hn : Instr.findNow d (enc k) (e :: es) 0 = none := by
        unfold Instr.findNow
        rw [h'.1.1, hs]
      simp only [Instr.findKey, Sem.run_bind, run_underlying hd, Result.andThen, hn]
      exact run_findAsking L k _ _ h 0 w

/-- what a lookup tells -/
def lookV (encV : V → Value) (z : Value) (o : Option V) : Value := match o with | some x => encV x | none => z

theorem run_lookup_kv (L : KeyLaw P kt enc) (hT : P.underlying T = some (.map kt et)) {z : Value} (hz : ∀ w, (zeroValue et).run P w = .ok z w) (hm : MapAt w b enc encV kv) (k : K) :
    (Instr.lookup T (.map (some b)) (enc k) true).run P w = .ok (.tuple #[lookV encV z (getKV k kv), .bool (getKV k kv).isSome]) w ∧
    (Instr.lookup T (.map (some b)) (enc k) false).run P w = .ok (lookV encV z (getKV k kv)) w := by
  obtain ⟨es, ck, hb, hkv, _⟩ := hm
  have hf := run_findKey (encV := encV) L k es.toList kv hkv w
  have hg := findKV_get k kv 0
  have hgo : (getObj b).run P w = .ok (.map es ck) w := by simp [getObj, Sem.run, hb]
  have hc := L.check es.isEmpty k w
  cases hfk : findKV k kv 0 with
  | none =>
    rw [hfk] at hf hg
    simp only [Option.map_none] at hf hg
    rw [← hg]
    constructor <;> simp [Instr.lookup, run_underlying hT, hgo, hc, hf, hz w, lookV, Result.andThen]
  | some p =>
    obtain ⟨i, v⟩ := p
    rw [hfk] at hf hg
    simp only [Option.map_some] at hf hg
    rw [← hg]
    constructor <;> simp [Instr.lookup, run_underlying hT, hgo, hc, hf, lookV, Result.andThen]

/-- a world in which one map was turned -/
def MapPut (w : World) (b : Nat) (w' : World) : Prop := ∃ es ck es0 ck0, w.heap[b]? = some (.map es0 ck0) ∧ w' = w.putObj b (.map es ck)

theorem MapPut.cell {w' : World} (h : MapPut w b w') (a : Addr) : w'.cell? a = w.cell? a := by
  obtain ⟨es, ck, es0, ck0, hb, rfl⟩ := h
  exact putObj_cell hb (fun _ _ _ => by simp) (fun _ _ _ => by simp) a
theorem MapPut.frozen {w' : World} (h : MapPut w b w') (a : Addr) : w'.frozen? a = w.frozen? a := by
  obtain ⟨es, ck, es0, ck0, hb, rfl⟩ := h
  exact putObj_frozen hb (fun _ _ _ => by simp) (fun _ _ _ => by simp) a
theorem MapPut.other {w' : World} (h : MapPut w b w') (k : Nat) (hk : k ≠ b) : w'.heap[k]? = w.heap[k]? := by
  obtain ⟨es, ck, es0, ck0, hb, rfl⟩ := h
  exact World.putObj_heap_other hk
theorem MapPut.size {w' : World} (h : MapPut w b w') : w'.heap.size = w.heap.size := by
  obtain ⟨es, ck, es0, ck0, hb, rfl⟩ := h
  simp
theorem MapPut.new {w0 w' : World} (h : MapPut w b w') (hn : New w0 w) (hb : w0.heap.size ≤ b) : New w0 w' := by
  obtain ⟨es, ck, es0, ck0, _, rfl⟩ := h
  exact hn.putObj b _ hb
omit [DecidableEq K] in
theorem MapAt.map {encV' : V → Value} (hm : MapAt w b enc encV' kv) : ∃ es ck, w.heap[b]? = some (.map es ck) := by
  obtain ⟨es, ck, hb, _⟩ := hm
  exact ⟨es, ck, hb⟩

theorem map_erase {α β : Type} (f : α → β) : ∀ (l : List α) (i : Nat), (l.eraseIdx i).map f = (l.map f).eraseIdx i
  | [], _ => rfl
  | _ :: _, 0 => rfl
  | a :: l, i + 1 => by simp [map_erase f l i]

theorem bornOk_push {es : Array MapEntry} {ck : Nat} (h : BornOk es ck) (e : MapEntry) (he : e.born = ck) : BornOk (es.push e) (ck + 1) := by
  constructor
  · rw [Array.toList_push, List.pairwise_append]
    refine ⟨h.1, by simp, ?_⟩
    intro a ha c hc
    simp at hc; subst hc
    rw [he]; exact h.2 a ha
  · intro a ha
    rw [Array.toList_push, List.mem_append] at ha
    rcases ha with ha | ha
    · have := h.2 a ha; omega
    · simp at ha; subst ha; omega
theorem bornOk_of_borns {es es' : Array MapEntry} {ck : Nat} (h : BornOk es ck) (hs : (es'.toList.map (·.born)).Sublist (es.toList.map (·.born))) : BornOk es' ck := by
  have h1 : (es.toList.map (·.born)).Pairwise (· < ·) := List.pairwise_map.2 h.1
  refine ⟨List.pairwise_map.1 (h1.sublist hs), ?_⟩
  intro e he
  have : e.born ∈ es.toList.map (·.born) := hs.subset (List.mem_map_of_mem he)
  obtain ⟨a, ha, hb⟩ := List.mem_map.1 this
  rw [← hb]; exact h.2 a ha

theorem run_update_kv (L : KeyLaw P kt enc) (hT : P.underlying T = some (.map kt et)) (hm : MapAt w b enc encV kv) (k : K) (x : V) :
    ∃ w', (Instr.mapUpdate T (.map (some b)) (enc k) (encV x)).run P w = .ok () w' ∧ MapPut w b w' ∧ MapAt w' b enc encV (putKV k x kv) := by
  obtain ⟨es, ck, hb, hkv, hB⟩ := hm
  have hlt := (Array.getElem?_eq_some_iff.1 hb).1
  have hf := run_findKey (encV := encV) L k es.toList kv hkv w
  have hgo : (getObj b).run P w = .ok (.map es ck) w := by simp [getObj, Sem.run, hb]
  have hset : ∀ o, (setObj b o).run P w = .ok () (w.putObj b o) := fun o => by simp [setObj, Sem.run, hb, World.putObj]
  have hc := L.check false k w
  have hlen : es.toList.length = kv.length := by have := congrArg List.length hkv; simpa using this
  cases hfk : findKV k kv 0 with
  | none =>
    rw [hfk] at hf
    simp only [Option.map_none] at hf
    refine ⟨w.putObj b (.map (es.push { key := enc k, val := encV x, born := ck }) (ck + 1)), ?_, ⟨_, _, _, _, hb, rfl⟩, ?_⟩
    · simp [Instr.mapUpdate, run_underlying hT, hgo, hc, hf, Result.andThen, hset]
    · refine ⟨_, _, World.putObj_heap_same hlt, ?_, bornOk_push hB _ rfl⟩
      rw [(findKV_none k x kv 0 hfk).1]
      simp [hkv]
  | some p =>
    obtain ⟨i, v⟩ := p
    rw [hfk] at hf
    simp only [Option.map_some] at hf
    obtain ⟨h1, h2, h3, h4, _⟩ := findKV_put k x kv 0 i v hfk
    simp only [Nat.sub_zero] at h2 h3 h4
    have hi : i < es.size := by rw [← Array.length_toList, hlen]; exact h2
    have hki : es[i].key = enc k := by
      have e1 : (es.toList.map (fun e => (e.key, e.val)))[i]? = some (es[i].key, es[i].val) := by simp [hi]
      rw [hkv, List.getElem?_map] at e1
      rw [List.getElem?_eq_getElem h2] at e1 h4
      simp at e1 h4
      rw [← e1.1, h4]
    have hkts : (Instr.keyThatStays (enc k) (enc k)).run P w = .ok (enc k) w := by simp [Instr.keyThatStays, L.bits]
    refine ⟨w.putObj b (.map (es.modify i fun e => { e with key := enc k, val := encV x }) ck), ?_, ⟨_, _, _, _, hb, rfl⟩, ?_⟩
    · have e2 : (Option.map (fun x => x.key) es[i]?).getD (enc k) = enc k := by simp [hi, hki]
      simp [Instr.mapUpdate, run_underlying hT, hgo, hc, hf, Result.andThen, hki, hi, hkts, hset]
    · refine ⟨_, _, World.putObj_heap_same hlt, ?_, bornOk_of_borns hB ?_⟩
      · rw [h3, List.map_set, ← hkv]
        apply List.ext_getElem?
        intro j
        simp only [List.getElem?_map, Array.getElem?_toList, Array.getElem?_modify, List.getElem?_set, List.length_map, Array.length_toList]
        by_cases hj : i = j
        · subst hj; simp [hi]
        · simp [hj]
      · have e3 : (es.modify i fun e => { e with key := enc k, val := encV x }).toList.map (·.born) = es.toList.map (·.born) := by
          apply List.ext_getElem?
          intro j
          simp only [List.getElem?_map, Array.getElem?_toList, Array.getElem?_modify]
          by_cases hj : i = j
          · subst hj; simp [hi]
          · simp [hj]
        rw [e3]
        exact List.Sublist.refl _

theorem run_delete_kv (L : KeyLaw P kt enc) (hT : P.underlying T = some (.map kt et)) (hm : MapAt w b enc encV kv) (k : K) (ty kT : TypeId) :
    ∃ w', (Builtin.delete_ #[T, kT] ty #[.map (some b), enc k]).run P w = .ok (.tuple #[]) w' ∧ MapPut w b w' ∧ MapAt w' b enc encV (delKV k kv) := by
  obtain ⟨es, ck, hb, hkv, hB⟩ := hm
  have hlt := (Array.getElem?_eq_some_iff.1 hb).1
  have hf := run_findKey (encV := encV) L k es.toList kv hkv w
  have hgo : (getObj b).run P w = .ok (.map es ck) w := by simp [getObj, Sem.run, hb]
  have hset : ∀ o, (setObj b o).run P w = .ok () (w.putObj b o) := fun o => by simp [setObj, Sem.run, hb, World.putObj]
  have hc := L.check es.isEmpty k w
  have hlen : es.toList.length = kv.length := by have := congrArg List.length hkv; simpa using this
  cases hfk : findKV k kv 0 with
  | none =>
    rw [hfk] at hf
    simp only [Option.map_none] at hf
    refine ⟨w.putObj b (.map es ck), ?_, ⟨_, _, _, _, hb, rfl⟩, ?_⟩
    · simp [Builtin.delete_, run_underlying hT, hgo, hc, hf, Result.andThen, hset]
    · refine ⟨_, _, World.putObj_heap_same hlt, ?_, hB⟩
      cases kv with
      | nil => exact hkv
      | cons p l => rw [(findKV_none k p.2 (p :: l) 0 hfk).2]; exact hkv
  | some p =>
    obtain ⟨i, v⟩ := p
    rw [hfk] at hf
    simp only [Option.map_some] at hf
    obtain ⟨h1, h2, _, _, h5⟩ := findKV_put k v kv 0 i v hfk
    simp only [Nat.sub_zero] at h2 h5
    refine ⟨w.putObj b (.map (es.eraseIdxIfInBounds i) ck), ?_, ⟨_, _, _, _, hb, rfl⟩, ?_⟩
    · simp [Builtin.delete_, run_underlying hT, hgo, hc, hf, Result.andThen, hset]
    · have hi : i < es.size := by rw [← Array.length_toList, hlen]; exact h2
      have he : (es.eraseIdxIfInBounds i).toList = es.toList.eraseIdx i := by
        unfold Array.eraseIdxIfInBounds
        rw [dif_pos hi]; simp
      refine ⟨_, _, World.putObj_heap_same hlt, ?_, bornOk_of_borns hB ?_⟩
      · rw [h5, he, map_erase, hkv, map_erase]
      · rw [he]
        exact ((List.eraseIdx_sublist _ _).map _)

omit [DecidableEq K] in
theorem run_len_kv (hT : P.underlying T = some (.map kt et)) (hm : MapAt w b enc encV kv) (ty : TypeId) :
    (Builtin.len_ #[T] ty #[.map (some b)]).run P w = .ok (.int .i64 kv.length) w := by
  obtain ⟨es, ck, hb, hkv, hB⟩ := hm
  have hgo : (getObj b).run P w = .ok (.map es ck) w := by simp [getObj, Sem.run, hb]
  have hlen : es.toList.length = kv.length := by have := congrArg List.length hkv; simpa using this
  have hl : es.size = kv.length := by simpa using hlen
  simp [Builtin.len_, run_underlying hT, hgo, Result.andThen, hl, goInt]
end

theorem eq_st (a b c d : Int) (w : World) : (Op.equal 31 (.agg #[.int .i64 a, .int .i64 b]) (.agg #[.int .i64 c, .int .i64 d])).run Tryz.prog w = .ok (a == c && b == d) w := by
  show (Op.equalIn (9999 + 1) 31 _ _).run Tryz.prog w = _
  have hu := Tryz.underlying2
  have hv := Tryz.underlying3
  go_simp
  by_cases h1 : a = c <;> by_cases h2 : b = d <;> simp [h1, h2]

theorem keySt : KeyLaw Tryz.prog 31 St.v where
  check e a w := by kernel_rfl
  eq a b w := by
    unfold St.v
    rw [eq_st]
    congr 1
    cases a with
    | mk a1 a2 =>
      cases b with
      | mk b1 b2 =>
        rw [Bool.eq_iff_iff]
        simp
  desc := ⟨_, Tryz.underlying31, fun _ _ => rfl⟩
  bits a := by simp [St.v, Instr.sameBits]

/-- a name in a directory -/
structure Pl where
  at_ : St
  name : ByteArray
  deriving DecidableEq, Inhabited
def Pl.v (p : Pl) : Value := .agg #[.int .i64 p.at_.t, .int .i64 p.at_.r, .string p.name]

theorem eq_pl (a b c d : Int) (s t : ByteArray) (w : World) : (Op.equal 94 (.agg #[.int .i64 a, .int .i64 b, .string s]) (.agg #[.int .i64 c, .int .i64 d, .string t])).run Tryz.prog w = .ok ((a == c && b == d) && s.toList == t.toList) w := by
  show (Op.equalIn (9999 + 1) 94 _ _).run Tryz.prog w = _
  have hu := Tryz.underlying2
  have hv := Tryz.underlying3
  have hs := Tryz.underlying9
  go_simp
  by_cases h1 : a = c <;> by_cases h2 : b = d <;> by_cases h3 : s.toList = t.toList <;> simp [h1, h2, h3]

theorem toList_inj (s t : ByteArray) : (s.toList == t.toList) = decide (s = t) := by
  rw [Bool.eq_iff_iff]
  simp only [beq_iff_eq, decide_eq_true_eq, ByteArray.toList_eq]
  constructor
  · intro h; apply ByteArray.ext; apply Array.ext'; exact h
  · intro h; rw [h]

theorem keyPl : KeyLaw Tryz.prog 94 Pl.v where
  check e a w := by kernel_rfl
  eq a b w := by
    unfold Pl.v
    rw [eq_pl, toList_inj]
    congr 1
    cases a with
    | mk a1 a2 =>
      cases b with
      | mk b1 b2 =>
        cases a1; cases b1
        rw [Bool.eq_iff_iff]
        simp
  desc := ⟨_, Tryz.underlying94, fun _ _ => rfl⟩
  bits a := by simp [Pl.v, Instr.sameBits, beq_toListBytes]
end Go.Proofs.YtlokljaeknmdpaaGreat

/-! ## Range -/
namespace Go.Proofs.YtlokljaeknmdpaaGreat
open Go.RowKit

section
variable {K V : Type} {enc : K → Value} {encV : V → Value} {kv : List (K × V)} {w : World} {r b : Nat}

/-- the entries that have not come yet -/
def leftOf (es : Array MapEntry) (kv : List (K × V)) (seen : Array Nat) : List (MapEntry × (K × V)) := (es.toList.zip kv).filter fun x => !seen.contains x.1.born

/-- a range over the map of block b is under way in block r; 'took' has come, n are left -/
def RangeAt (w : World) (r b : Nat) (enc : K → Value) (encV : V → Value) (kv : List (K × V)) (took : List (K × V)) (n : Nat) : Prop :=
  ∃ es ck seen, w.heap[b]? = some (.map es ck) ∧ es.toList.map (fun e => (e.key, e.val)) = kv.map (fun p => (enc p.1, encV p.2)) ∧ BornOk es ck ∧
    w.heap[r]? = some (.mapIter (some b) ck seen ck) ∧ (took ++ (leftOf es kv seen).map (·.2)).Perm kv ∧ (leftOf es kv seen).length = n

theorem RangeAt.kept {took : List (K × V)} {n : Nat} {w' : World} (h : RangeAt w r b enc encV kv took n) (hb : w'.heap[b]? = w.heap[b]?) (hr : w'.heap[r]? = w.heap[r]?) : RangeAt w' r b enc encV kv took n := by
  obtain ⟨es, ck, seen, h1, h2, h3, h4, h5, h6⟩ := h
  exact ⟨es, ck, seen, hb.trans h1, h2, h3, hr.trans h4, h5, h6⟩
theorem RangeAt.map {took : List (K × V)} {n : Nat} (h : RangeAt w r b enc encV kv took n) : MapAt w b enc encV kv := by
  obtain ⟨es, ck, seen, h1, h2, h3, h4, h5, h6⟩ := h
  exact ⟨es, ck, h1, h2, h3⟩
theorem RangeAt.iter {took : List (K × V)} {n : Nat} (h : RangeAt w r b enc encV kv took n) : ∃ m s q l, w.heap[r]? = some (.mapIter m s q l) := by
  obtain ⟨es, ck, seen, h1, h2, h3, h4, h5, h6⟩ := h
  exact ⟨_, _, _, _, h4⟩

theorem zip_map_snd {es : Array MapEntry} (h : es.toList.map (fun e => (e.key, e.val)) = kv.map (fun p => (enc p.1, encV p.2))) : (es.toList.zip kv).map (·.2) = kv := by
  have hl : es.toList.length = kv.length := by simpa using congrArg List.length h
  exact List.map_snd_zip (by omega)

/-- the beginning of a range -/
theorem run_range_kv {P : Program} {T kt et : TypeId} (hT : P.underlying T = some (.map kt et)) (hm : MapAt w b enc encV kv) :
    ∃ w', (Instr.range T (.map (some b))).run P w = .ok (.pointer (some ⟨w.heap.size, 0, none⟩)) w' ∧ New w w' ∧ RangeAt w' w.heap.size b enc encV kv [] kv.length := by
  obtain ⟨es, ck, hb, hkv, hB⟩ := hm
  have hgo : (getObj b).run P w = .ok (.map es ck) w := by simp [getObj, Sem.run, hb]
  have hl : es.toList.length = kv.length := by simpa using congrArg List.length hkv
  refine ⟨w.alloc (.mapIter (some b) ck #[] ck), ?_, New.alloc' _ _, es, ck, #[], ?_, hkv, hB, ?_, ?_, ?_⟩
  · simp [Instr.range, run_underlying hT, hgo, Result.andThen]
  · exact (New.alloc' w _).heap hb
  · exact World.alloc_heap_new w _
  · have : leftOf es kv #[] = es.toList.zip kv := by simp [leftOf]
    rw [this, zip_map_snd hkv]
    exact List.Perm.refl _
  · have : leftOf es kv #[] = es.toList.zip kv := by simp [leftOf]
    rw [this, List.length_zip, hl, Nat.min_self]

theorem left_arr {es : Array MapEntry} {ck : Nat} (hB : BornOk es ck) (seen : Array Nat) :
    (es.filter fun e => !seen.contains e.born).filter (·.born < ck) = es.filter (fun e => !seen.contains e.born) ∧ (es.filter fun e => !seen.contains e.born).filter (·.born ≥ ck) = #[] := by
  constructor
  · apply Array.ext'
    rw [Array.toList_filter, List.filter_eq_self]
    intro a ha
    rw [Array.toList_filter] at ha
    have := hB.2 a (List.mem_filter.1 ha).1
    simpa using this
  · apply Array.ext'
    rw [Array.toList_filter, List.filter_eq_nil_iff]
    intro a ha
    rw [Array.toList_filter] at ha
    have := hB.2 a (List.mem_filter.1 ha).1
    simp; omega

theorem leftOf_fst {es : Array MapEntry} (seen : Array Nat) (hl : es.toList.length = kv.length) : (leftOf es kv seen).map (·.1) = es.toList.filter (fun e => !seen.contains e.born) := by
  unfold leftOf
  have : ∀ (l : List MapEntry) (k : List (K × V)), l.length = k.length → ((l.zip k).filter fun x => !seen.contains x.1.born).map (·.1) = l.filter (fun e => !seen.contains e.born) := by
    intro l
    induction l with
    | nil => intro k _; rfl
    | cons a l ih =>
      intro k hk
      cases k with
      | nil => simp at hk
      | cons p k =>
        simp only [List.zip_cons_cons, List.filter_cons]
        split
        · simp only [List.map_cons]; rw [ih k (by simpa using hk)]
        · exact ih k (by simpa using hk)
  exact this _ _ hl

/-- one entry goes -/
theorem filter_go {X : Type} (f : X → Nat) : ∀ (l : List X), l.Pairwise (fun a b => f a < f b) → ∀ (seen : Array Nat) (x : X), x ∈ l.filter (fun a => !seen.contains (f a)) →
    (x :: l.filter (fun a => !(seen.push (f x)).contains (f a))).Perm (l.filter (fun a => !seen.contains (f a)))
  | [], _, _, _, h => by simp at h
  | a :: l, hp, seen, x, h => by
    rw [List.pairwise_cons] at hp
    have hpush : ∀ y, (seen.push (f x)).contains (f y) = (seen.contains (f y) || (f y == f x)) := by
      intro y
      rw [Bool.eq_iff_iff]
      simp
    by_cases hax : f a = f x
    · have hx : x = a := by
        rcases List.mem_cons.1 (List.mem_filter.1 h).1 with e | e
        · exact e
        · have := hp.1 x e; omega
      subst hx
      have hs : (!seen.contains (f x)) = true := (List.mem_filter.1 h).2
      rw [List.filter_cons, List.filter_cons, if_pos hs, hpush]
      simp only [beq_self_eq_true, Bool.or_true, Bool.not_true, Bool.false_eq_true, if_false]
      apply List.Perm.cons
      apply List.Perm.of_eq
      apply List.filter_congr
      intro y hy
      have := hp.1 y hy
      rw [hpush, beq_eq_false_iff_ne.2 (show f y ≠ f x by omega), Bool.or_false]
    · have hxl : x ∈ l.filter (fun a => !seen.contains (f a)) := by
        have hm := List.mem_filter.1 h
        rcases List.mem_cons.1 hm.1 with e | e
        · exact absurd (by rw [e]) hax
        · exact List.mem_filter.2 ⟨e, hm.2⟩
      have ih := filter_go f l hp.2 seen x hxl
      rw [List.filter_cons, List.filter_cons, hpush, beq_eq_false_iff_ne.2 hax, Bool.or_false]
      split
      · exact (List.Perm.swap _ _ _).trans (ih.cons _)
      · exact ih

theorem getElem_some_of_mod {α : Type} (l : Array α) (t : Nat) (h : 0 < l.size) : ∃ x, l[t % l.size]? = some x ∧ x ∈ l.toList := by
  have := Nat.mod_lt t h
  exact ⟨l[t % l.size], by simp [this], by simp⟩

/-- the end of a range -/
theorem run_next_done {P : Program} {took : List (K × V)} (h : RangeAt w r b enc encV kv took 0) (ty : TypeId) :
    took.Perm kv ∧ (Instr.next (.pointer (some ⟨r, 0, none⟩)) false ty).run P w = .ok (.tuple #[.bool false]) w := by
  obtain ⟨es, ck, seen, h1, h2, h3, h4, h5, h6⟩ := h
  have hl : es.toList.length = kv.length := by simpa using congrArg List.length h2
  have hnil : leftOf es kv seen = [] := List.eq_nil_of_length_eq_zero h6
  have hf := leftOf_fst (kv := kv) seen hl
  rw [hnil] at h5 hf
  have hgo : (getObj b).run P w = .ok (.map es ck) w := by simp [getObj, Sem.run, h1]
  have hgr : (getObj r).run P w = .ok (.mapIter (some b) ck seen ck) w := by simp [getObj, Sem.run, h4]
  have hla : es.filter (fun e => !seen.contains e.born) = #[] := by
    apply Array.ext'; rw [Array.toList_filter, ← hf]; rfl
  have hg : (!seen.isEmpty && !es.isEmpty && es.all (·.born ≥ ck)) = false := by
    by_cases he : es.isEmpty = true
    · simp [he]
    · have : es.all (·.born ≥ ck) = false := by
        rw [Bool.eq_false_iff]
        intro hall
        have hne : 0 < es.size := by
          rcases Nat.eq_zero_or_pos es.size with h0 | h0
          · exact absurd (by simpa using h0) he
          · exact h0
        have h0 := (Array.all_eq_true.1 hall) 0 hne
        have := h3.2 es[0] (by simp)
        simp at h0; omega
      rw [this, Bool.and_false]
  refine ⟨by simpa using h5, ?_⟩
  simp only [Instr.next, Sem.run_bind, hgr, hgo, Result.andThen, hg, hla]
  simp [choose, Sem.run, Question.forced]

/-- a step of a range -/
theorem run_next_step {P : Program} {took : List (K × V)} {n : Nat} (h : RangeAt w r b enc encV kv took (n + 1)) :
    ∃ p d o, (∀ ty, (Instr.next (.pointer (some ⟨r, 0, none⟩)) false ty).run P w = .ok (.tuple #[.bool true, enc p.1, encV p.2]) ((w.drewN d).putObj r o)) ∧ (∀ c e f, o ≠ .cells c e f) ∧
      (r ≠ b → (Instr.entry (.pointer (some ⟨r, 0, none⟩))).run P ((w.drewN d).putObj r o) = .ok (.tuple #[enc p.1, encV p.2]) ((w.drewN d).putObj r o)) ∧
      (r ≠ b → RangeAt ((w.drewN d).putObj r o) r b enc encV kv (took ++ [p]) n) := by
  obtain ⟨es, ck, seen, h1, h2, h3, h4, h5, h6⟩ := h
  have hl : es.toList.length = kv.length := by simpa using congrArg List.length h2
  have hf := leftOf_fst (kv := kv) seen hl
  have hgo : (getObj b).run P w = .ok (.map es ck) w := by simp [getObj, Sem.run, h1]
  have hgr : (getObj r).run P w = .ok (.mapIter (some b) ck seen ck) w := by simp [getObj, Sem.run, h4]
  obtain ⟨a1, a2⟩ := left_arr h3 seen
  obtain ⟨L, hL⟩ : ∃ L, L = es.filter (fun e => !seen.contains e.born) := ⟨_, rfl⟩
  have hLl : L.toList = (leftOf es kv seen).map (·.1) := by rw [hL, Array.toList_filter, hf]
  have hLs : L.size = n + 1 := by rw [← Array.length_toList, hLl, List.length_map, h6]
  rw [← hL] at a1 a2
  have hg : (!seen.isEmpty && !es.isEmpty && es.all (·.born ≥ ck)) = false := by
    by_cases he : es.isEmpty = true
    · simp [he]
    · have : es.all (·.born ≥ ck) = false := by
        rw [Bool.eq_false_iff]
        intro hall
        have hne : 0 < es.size := by
          rcases Nat.eq_zero_or_pos es.size with h0 | h0
          · exact absurd (by simpa using h0) he
          · exact h0
        have h0 := (Array.all_eq_true.1 hall) 0 hne
        have := h3.2 es[0] (by simp)
        simp at h0; omega
      rw [this, Bool.and_false]
  -- which one comes
  have hch : ∃ i d, i < L.size ∧ (choose (.mapNext L.size)).run P w = .ok i (w.drewN d) := by
    by_cases hforced : L.size ≤ 1
    · exact ⟨0, 0, by omega, by simp [choose, Sem.run, Question.forced, hforced, World.drewN]⟩
    · refine ⟨w.tape w.drawn (.mapNext L.size) % L.size, 1, Nat.mod_lt _ (by omega), ?_⟩
      simp only [choose, Sem.run, Question.forced, hforced, decide_false]
      rfl
  obtain ⟨i, d, hi, hch⟩ := hch
  have hix : i < (leftOf es kv seen).length := by rw [h6]; omega
  obtain ⟨x, hx⟩ : ∃ x, x = (leftOf es kv seen)[i] := ⟨_, rfl⟩
  have hxm : x ∈ leftOf es kv seen := by rw [hx]; exact List.getElem_mem _
  have hLi : L[i]? = some x.1 := by
    rw [← Array.getElem?_toList, hLl, List.getElem?_map, List.getElem?_eq_getElem hix, hx]; rfl
  -- its pair
  have hpair : x.1.key = enc x.2.1 ∧ x.1.val = encV x.2.2 := by
    have hz : x ∈ es.toList.zip kv := (List.mem_filter.1 hxm).1
    have key : ∀ (l : List MapEntry) (k : List (K × V)), l.map (fun e => (e.key, e.val)) = k.map (fun p => (enc p.1, encV p.2)) → ∀ x ∈ l.zip k, x.1.key = enc x.2.1 ∧ x.1.val = encV x.2.2 := by
      intro l
      induction l with
      | nil => intro k _ x hx; simp at hx
      | cons a l ih =>
        intro k hk x hx
        cases k with
        | nil => simp at hx
        | cons p k =>
          simp only [List.map_cons, List.cons.injEq, Prod.mk.injEq] at hk
          rcases List.mem_cons.1 hx with e | e
          · rw [e]; exact hk.1
          · exact ih k hk.2 x e
    exact key _ _ h2 x hz
  refine ⟨x.2, d, .mapIter (some b) ck (seen.push x.1.born) ck, ?_, fun _ _ _ => by simp, ?_, ?_⟩
  · intro ty
    have hset : (setObj r (.mapIter (some b) ck (seen.push x.1.born) ck)).run P (w.drewN d) = .ok () ((w.drewN d).putObj r (.mapIter (some b) ck (seen.push x.1.born) ck)) := by
      simp [setObj, Sem.run, h4, World.putObj, World.drewN]
    have hne : L.isEmpty = false := by
      rw [Bool.eq_false_iff]; intro h; simp at h; rw [h] at hLs; simp at hLs
    have hsz : ((if L.isEmpty = true then #[none] else #[] : Array (Option MapEntry)) ++ (L ++ #[]).map some).size = L.size := by simp [hne]
    have hget : ((if L.isEmpty = true then #[none] else #[] : Array (Option MapEntry)) ++ (L ++ #[]).map some)[i]? = some (some x.1) := by simp [hne, hLi]
    simp only [Instr.next, Sem.run_bind, hgr, hgo, Result.andThen, hg, ← hL, a1, a2, hsz, Bool.false_eq_true, if_false, hch, hget, hset, hpair.1, hpair.2]
    rfl
  · intro hrb
    have hlt := (Array.getElem?_eq_some_iff.1 h4).1
    have g1 : ((w.drewN d).putObj r (.mapIter (some b) ck (seen.push x.1.born) ck)).heap[r]? = some (.mapIter (some b) ck (seen.push x.1.born) ck) := World.putObj_heap_same hlt
    have g2 : ((w.drewN d).putObj r (.mapIter (some b) ck (seen.push x.1.born) ck)).heap[b]? = some (.map es ck) := (World.putObj_heap_other (Ne.symm hrb)).trans h1
    have hfind : es.find? (fun e => e.born == x.1.born) = some x.1 := by
      have hxe : x.1 ∈ es.toList := (List.of_mem_zip (List.mem_filter.1 hxm).1).1
      rw [← Array.find?_toList]
      have key : ∀ (l : List MapEntry), l.Pairwise (fun a b => a.born < b.born) → x.1 ∈ l → l.find? (fun e => e.born == x.1.born) = some x.1 := by
        intro l
        induction l with
        | nil => intro _ h; cases h
        | cons a l ih =>
          intro hp hm
          rw [List.pairwise_cons] at hp
          rw [List.find?_cons]
          rcases List.mem_cons.1 hm with e | e
          · rw [← e]; simp
          · have := hp.1 _ e
            rw [beq_eq_false_iff_ne.2 (show a.born ≠ x.1.born by omega)]
            exact ih hp.2 e
      exact key _ h3.1 hxe
    generalize (w.drewN d).putObj r (.mapIter (some b) ck (seen.push x.1.born) ck) = W at g1 g2 ⊢
    have hgr' : (getObj r).run P W = .ok (.mapIter (some b) ck (seen.push x.1.born) ck) W := by simp [getObj, Sem.run, g1]
    have hgo' : (getObj b).run P W = .ok (.map es ck) W := by simp [getObj, Sem.run, g2]
    simp [Instr.entry, hgr', hgo', Result.andThen, hfind, hpair.1, hpair.2]
  · intro hrb
    have hlt := (Array.getElem?_eq_some_iff.1 h4).1
    refine ⟨es, ck, seen.push x.1.born, (World.putObj_heap_other (Ne.symm hrb)).trans h1, h2, h3, World.putObj_heap_same hlt, ?_, ?_⟩
    · have hp := filter_go (fun y : MapEntry × (K × V) => y.1.born) (es.toList.zip kv) ?_ seen x hxm
      · have hp2 := hp.map (·.2)
        have e : took ++ [x.2] ++ (leftOf es kv (seen.push x.1.born)).map (·.2) = took ++ (x :: leftOf es kv (seen.push x.1.born)).map (·.2) := by simp
        rw [e]
        exact (List.Perm.append_left took hp2).trans h5
      · have : ∀ (l : List MapEntry) (k : List (K × V)), l.Pairwise (fun a b => a.born < b.born) → (l.zip k).Pairwise (fun a b => a.1.born < b.1.born) := by
          intro l
          induction l with
          | nil => intro k _; simp
          | cons a l ih =>
            intro k hk
            cases k with
            | nil => simp
            | cons p k =>
              rw [List.zip_cons_cons, List.pairwise_cons]
              rw [List.pairwise_cons] at hk
              refine ⟨fun y hy => hk.1 _ (List.of_mem_zip hy).1, ih k hk.2⟩
        exact this _ _ h3.1
    · have hp := filter_go (fun y : MapEntry × (K × V) => y.1.born) (es.toList.zip kv) ?_ seen x hxm
      · have := hp.length_eq
        have h6' : ((es.toList.zip kv).filter fun x => !seen.contains x.1.born).length = n + 1 := h6
        rw [h6'] at this
        show ((es.toList.zip kv).filter _).length = n
        simpa using this
      · have : ∀ (l : List MapEntry) (k : List (K × V)), l.Pairwise (fun a b => a.born < b.born) → (l.zip k).Pairwise (fun a b => a.1.born < b.1.born) := by
          intro l
          induction l with
          | nil => intro k _; simp
          | cons a l ih =>
            intro k hk
            cases k with
            | nil => simp
            | cons p k =>
              rw [List.zip_cons_cons, List.pairwise_cons]
              rw [List.pairwise_cons] at hk
              refine ⟨fun y hy => hk.1 _ (List.of_mem_zip hy).1, ih k hk.2⟩
        exact this _ _ h3.1
end
end Go.Proofs.YtlokljaeknmdpaaGreat
