/-
  Words and laws that all walks of this seat share: worlds that only grow, maps with struct keys as lists, slices of structs as lists; no condition. · Maps whose keys are stamps, as lists of pairs: lookup, store, delete, len; no condition. · The contracts of cmp.Compare, cmp.Or and stamp.Compare, stamp.May; no condition.
-/
import Derived.Test.YtfbjiaedfmdcfaaGreatDoorRows
import Derived.WalkKit
import Derived.WalkSpells
import Derived.WalkLawsBesides
import Derived.Lib.Hide
import Derived.Lib.Bytealg
import Derived.Lib.MinMax
import Derived.Deep.QuietTactic
import Derived.BigQuiet
import Derived.RangeFuncRecord
import Derived.Sort.Grow
import Derived.StillTailTactics
/-! ## Base -/
namespace Go.Proofs.YtfbjiaedfmdcfaaGreatDoor
open Go.RowKit

/-! ### worlds that only grow, and draw -/

/-- everything that was there is as it was; new blocks, draws -/
structure New (w w' : World) : Prop where
  os : w'.os = w.os
  tape : w'.tape = w.tape
  output : w'.output = w.output
  size : w.heap.size ≤ w'.heap.size
  block : ∀ k, k < w.heap.size → w'.heap[k]? = w.heap[k]?
  drawn : w.drawn ≤ w'.drawn

theorem New.refl (w : World) : New w w := ⟨rfl, rfl, rfl, Nat.le_refl _, fun _ _ => rfl, Nat.le_refl _⟩
theorem New.trans {a b c : World} (h : New a b) (k : New b c) : New a c :=
  ⟨k.os.trans h.os, k.tape.trans h.tape, k.output.trans h.output, Nat.le_trans h.size k.size, fun i hi => (k.block i (Nat.lt_of_lt_of_le hi h.size)).trans (h.block i hi), Nat.le_trans h.drawn k.drawn⟩
theorem New.below {w w' : World} (h : New w w') : Below w.heap.size w w' := ⟨h.os, h.tape, h.output, h.size, h.block⟩
theorem New.alloc' (w : World) (o : Obj) : New w (w.alloc o) := ⟨rfl, rfl, rfl, by simp, fun k hk => Below.heap_alloc w o k hk, Nat.le_refl _⟩
theorem New.drew' (w : World) : New w w.drew := ⟨rfl, rfl, rfl, Nat.le_refl _, fun _ _ => rfl, Nat.le_succ _⟩
theorem New.alloc {w w' : World} (h : New w w') (o : Obj) : New w (w'.alloc o) := h.trans (New.alloc' w' o)
theorem New.drew {w w' : World} (h : New w w') : New w w'.drew := h.trans (New.drew' w')
theorem New.cell {w w' : World} (h : New w w') {a : Addr} {v : Value} (hc : w.cell? a = some v) : w'.cell? a = some v := by
  have hlt := block_lt_of_cell hc
  unfold World.cell? at hc ⊢
  rw [h.block _ hlt]; exact hc
theorem New.heap {w w' : World} (h : New w w') {b : Nat} {o : Obj} (hc : w.heap[b]? = some o) : w'.heap[b]? = some o :=
  (h.block b (Array.getElem?_eq_some_iff.1 hc).1).trans hc
/-- what the sort asks of a comparison -/
theorem New.grow {w w' : World} (h : New w w') : ∃ q os, w' = Sort.grow (w.drewN q) os := by
  refine ⟨w'.drawn - w.drawn, w'.heap.extract w.heap.size w'.heap.size, ?_⟩
  have e : w'.heap = w.heap ++ w'.heap.extract w.heap.size w'.heap.size := by
    apply Array.ext_getElem?
    intro i
    by_cases hi : i < w.heap.size
    · rw [h.block i hi, Array.getElem?_append_left hi]
    · rw [Array.getElem?_append_right (by omega), Array.getElem?_extract]
      have := h.size
      by_cases hj : i < w'.heap.size
      · rw [if_pos (by omega)]; congr 1; omega
      · rw [if_neg (by omega), Array.getElem?_eq_none (by omega)]
  cases w' with
  | mk heap tape drawn os output =>
    have h1 := h.os; have h2 := h.tape; have h3 := h.output; have h4 := h.drawn
    simp only at h1 h2 h3 h4 e
    unfold Sort.grow World.drewN
    simp only [World.mk.injEq]
    exact ⟨e, h2, by omega, h1, h3⟩

/-! ### a block that is put anew -/
theorem putObj_cell {w : World} {b : Nat} {o o' : Obj} (hb : w.heap[b]? = some o) (h : ∀ c e f, o ≠ .cells c e f) (h' : ∀ c e f, o' ≠ .cells c e f) (a : Addr) : (w.putObj b o').cell? a = w.cell? a := by
  have hlt := (Array.getElem?_eq_some_iff.1 hb).1
  unfold World.cell?
  by_cases e : a.block = b
  · rw [e, World.putObj_heap_same hlt, hb]
    cases o <;> cases o' <;> first | rfl | exact absurd rfl (h _ _ _) | exact absurd rfl (h' _ _ _)
  · rw [World.putObj_heap_other e]
theorem putObj_frozen {w : World} {b : Nat} {o o' : Obj} (hb : w.heap[b]? = some o) (h : ∀ c e f, o ≠ .cells c e f) (h' : ∀ c e f, o' ≠ .cells c e f) (a : Addr) : (w.putObj b o').frozen? a = w.frozen? a := by
  have hlt := (Array.getElem?_eq_some_iff.1 hb).1
  unfold World.frozen?
  by_cases e : a.block = b
  · rw [e, World.putObj_heap_same hlt, hb]
    cases o <;> cases o' <;> first | rfl | exact absurd rfl (h _ _ _) | exact absurd rfl (h' _ _ _)
  · rw [World.putObj_heap_other e]
theorem New.putObj {w w' : World} (h : New w w') (b : Nat) (o : Obj) (hb : w.heap.size ≤ b) : New w (w'.putObj b o) :=
  ⟨h.os, h.tape, h.output, by simpa using h.size, fun k hk => (World.putObj_heap_other (by omega)).trans (h.block k hk), h.drawn⟩

/-! ### a region that draws its order: reads and quiet calls, then a tail in one forced order -/
theorem region_tail {P : Program} {id : Nat} {Q : Exit → Act → World → Prop} {a : Act} {w : World} {l : List Oper} (n : Nat) (hm : P.follows .mixedOrders = true) (hB : Region.lexTailB .any l.toArray n = true)
    (h : ∀ W, (∀ a, W.cell? a = w.cell? a) → W.heap = w.heap → New w W → wpStill P l.toArray W (fun a' => wpList P l.toArray Q (l.drop n) a' W) (l.take n) a) : (Code.region id l.toArray true).wp P Q a w :=
  wp_region_still_tail n hm hB (h w.drew (fun _ => rfl) rfl (New.drew' w))

/-! ### ranging over a string -/
theorem run_next_str {P : Program} (w : World) (r : Nat) (s : ByteArray) (pos : Nat) (ty : TypeId) (hw : w.heap[r]? = some (.stringIter s pos)) (h : pos < s.size) :
    (Instr.next (.pointer (some ⟨r, 0, none⟩)) true ty).run P w =
      .ok (.tuple #[.bool true, .int .i64 pos, .int .i32 (Utf8.decode s pos).1]) (w.putObj r (.stringIter s (pos + (Utf8.decode s pos).2))) := by
  simp only [Instr.next, getObj, setObj, Sem.run_bind, Sem.run, hw, Result.andThen, h, if_true]
  simp [goInt, World.putObj]
theorem run_next_strEnd {P : Program} (w : World) (r : Nat) (s : ByteArray) (pos : Nat) (ty : TypeId) (hw : w.heap[r]? = some (.stringIter s pos)) (h : ¬ pos < s.size) :
    (Instr.next (.pointer (some ⟨r, 0, none⟩)) true ty).run P w = .ok (.tuple #[.bool false]) w := by
  simp [Instr.next, getObj, Sem.run, hw, h]
end Go.Proofs.YtfbjiaedfmdcfaaGreatDoor

/-! ## Maps -/
namespace Go.Proofs.YtfbjiaedfmdcfaaGreatDoor
open Go.RowKit

/-- a stamp -/
structure St where
  t : Int
  r : Int
  deriving DecidableEq, Inhabited
def St.cells (s : St) : List Value := [.int .i64 s.t, .int .i64 s.r]
def St.v (s : St) : Value := .agg #[.int .i64 s.t, .int .i64 s.r]

/-- an inode -/
structure Ino where
  id : St
  kind : Int
  links : Int
  mode : Int
  data : ByteArray
  deriving DecidableEq, Inhabited
def Ino.cells (i : Ino) : List Value := [.int .i64 i.id.t, .int .i64 i.id.r, .int .i64 i.kind, .int .i64 i.links, .int .i64 i.mode, .string i.data]
def Ino.v (i : Ino) : Value := .agg #[.int .i64 i.id.t, .int .i64 i.id.r, .int .i64 i.kind, .int .i64 i.links, .int .i64 i.mode, .string i.data]

/-- an entry -/
structure Ent where
  at_ : St
  name : ByteArray
  ino : St
  deriving DecidableEq, Inhabited
def Ent.cells (e : Ent) : List Value := [.int .i64 e.at_.t, .int .i64 e.at_.r, .string e.name, .int .i64 e.ino.t, .int .i64 e.ino.r]
def Ent.v (e : Ent) : Value := .agg #[.int .i64 e.at_.t, .int .i64 e.at_.r, .string e.name, .int .i64 e.ino.t, .int .i64 e.ino.r]

/-- what is asked of a key type -/
structure KeyLaw {K : Type} [DecidableEq K] (P : Program) (kt : TypeId) (enc : K → Value) : Prop where
  check : ∀ e a w, (Instr.checkKey e 10000 kt (enc a)).run P w = .ok () w
  eq : ∀ a b w, (Op.equal kt (enc a) (enc b)).run P w = .ok (decide (a = b)) w
  desc : ∃ d, P.underlying kt = some d ∧ ∀ a b, Instr.sameNow d (enc a) (enc b) = none
  bits : ∀ a, Instr.sameBits 10000 (enc a) (enc a) = true

/-- the place of a key in a list of pairs -/
def findKV {K V : Type} [DecidableEq K] (k : K) : List (K × V) → Nat → Option (Nat × V)
  | [], _ => none
  | (a, v) :: l, i => if k = a then some (i, v) else findKV k l (i + 1)
def getKV {K V : Type} [DecidableEq K] (k : K) : List (K × V) → Option V
  | [] => none
  | (a, v) :: l => if k = a then some v else getKV k l
def putKV {K V : Type} [DecidableEq K] (k : K) (x : V) : List (K × V) → List (K × V)
  | [] => [(k, x)]
  | (a, v) :: l => if k = a then (k, x) :: l else (a, v) :: putKV k x l
def delKV {K V : Type} [DecidableEq K] (k : K) : List (K × V) → List (K × V)
  | [] => []
  | (a, v) :: l => if k = a then l else (a, v) :: delKV k l

theorem findKV_get {K V : Type} [DecidableEq K] (k : K) : ∀ (l : List (K × V)) (i : Nat), (findKV k l i).map (·.2) = getKV k l
  | [], _ => rfl
  | (a, v) :: l, i => by
    unfold findKV getKV
    by_cases h : k = a
    · rw [if_pos h, if_pos h]; rfl
    · rw [if_neg h, if_neg h]; exact findKV_get k l (i + 1)
theorem findKV_put {K V : Type} [DecidableEq K] (k : K) (x : V) : ∀ (l : List (K × V)) (i j : Nat) (v : V), findKV k l i = some (j, v) → i ≤ j ∧ j - i < l.length ∧ putKV k x l = l.set (j - i) (k, x) ∧ (l[j - i]?).map (·.1) = some k ∧ delKV k l = l.eraseIdx (j - i)
  | [], _, _, _, h => by simp [findKV] at h
  | (a, u) :: l, i, j, v, h => by
    unfold findKV at h
    by_cases e : k = a
    · rw [if_pos e] at h
      obtain ⟨rfl, rfl⟩ := Prod.mk.inj (Option.some.inj h)
      refine ⟨Nat.le_refl _, by simp, ?_, ?_, ?_⟩
      · simp [putKV, e]
      · simp [e]
      · simp [delKV, e]
    · rw [if_neg e] at h
      obtain ⟨h1, h2, h3, h4, h5⟩ := findKV_put k x l (i + 1) j v h
      have hj : j - i = (j - (i + 1)) + 1 := by omega
      refine ⟨by omega, by simp; omega, ?_, ?_, ?_⟩
      · rw [hj]; simp only [putKV, e, if_false, h3, List.set_cons_succ]
      · rw [hj]; simpa using h4
      · rw [hj]; simp only [delKV, e, if_false, h5, List.eraseIdx_cons_succ]
theorem findKV_none {K V : Type} [DecidableEq K] (k : K) (x : V) : ∀ (l : List (K × V)) (i : Nat), findKV k l i = none → putKV k x l = l ++ [(k, x)] ∧ delKV k l = l
  | [], _, _ => ⟨rfl, rfl⟩
  | (a, u) :: l, i, h => by
    unfold findKV at h
    by_cases e : k = a
    · rw [if_pos e] at h; cases h
    · rw [if_neg e] at h
      obtain ⟨h1, h2⟩ := findKV_none k x l (i + 1) h
      exact ⟨by simp [putKV, e, h1], by simp [delKV, e, h2]⟩

/-- the births of a map's entries rise -/
def BornOk (es : Array MapEntry) (ck : Nat) : Prop := es.toList.Pairwise (fun a b => a.born < b.born) ∧ ∀ e ∈ es.toList, e.born < ck

/-- block b is a map that holds these pairs, in this order -/
def MapAt {K V : Type} (w : World) (b : Nat) (enc : K → Value) (encV : V → Value) (kv : List (K × V)) : Prop :=
  ∃ es ck, w.heap[b]? = some (.map es ck) ∧ es.toList.map (fun e => (e.key, e.val)) = kv.map (fun p => (enc p.1, encV p.2)) ∧ BornOk es ck

section
variable {K V : Type} [DecidableEq K] {P : Program} {kt et T : TypeId} {enc : K → Value} {encV : V → Value} {kv : List (K × V)} {w : World} {b : Nat}

theorem run_findAsking (L : KeyLaw P kt enc) (k : K) : ∀ (es : List MapEntry) (kv : List (K × V)), es.map (fun e => (e.key, e.val)) = kv.map (fun p => (enc p.1, encV p.2)) → ∀ (i : Nat) (w : World),
    (Instr.findAsking kt (enc k) es i).run P w = .ok ((findKV k kv i).map fun p => (p.1, encV p.2)) w
  | [], [], _, i, w => rfl
  | [], _ :: _, h, _, _ => by simp at h
  | _ :: _, [], h, _, _ => by simp at h
  | e :: es, (a, v) :: kv, h, i, w => by
    simp only [List.map_cons, List.cons.injEq, Prod.mk.injEq] at h
    obtain ⟨⟨h1, h2⟩, h3⟩ := h
    simp only [Instr.findAsking, Sem.run_bind, h1, L.eq, Result.andThen, findKV]
    by_cases hk : k = a
    · simp [hk, h2]
    · simp only [hk, decide_false, if_false]
      exact run_findAsking L k es kv h3 (i + 1) w

theorem run_findKey (L : KeyLaw P kt enc) (k : K) (es : List MapEntry) (kv : List (K × V)) (h : es.map (fun e => (e.key, e.val)) = kv.map (fun p => (enc p.1, encV p.2))) (w : World) :
    (Instr.findKey kt (enc k) es).run P w = .ok ((findKV k kv 0).map fun p => (p.1, encV p.2)) w := by
  obtain ⟨d, hd, hs⟩ := L.desc
  cases es with
  | nil =>
    cases kv with
    | nil => simp [Instr.findKey, run_underlying hd, Instr.findNow, findKV]
    | cons p kv => simp at h
  | cons e es =>
    cases kv with
    | nil => simp at h
    | cons p kv =>
      have h' := h
      simp only [List.map_cons, List.cons.injEq, Prod.mk.injEq] at h'
      have hn : Instr.findNow d (enc k) (e :: es) 0 = none := by
        unfold Instr.findNow
        rw [h'.1.1, hs]
      simp only [Instr.findKey, Sem.run_bind, run_underlying hd, Result.andThen, hn]
      exact run_findAsking L k _ _ h 0 w

/-- what a lookup tells -/
def lookV (encV : V → Value) (z : Value) (o : Option V) : Value := match o with | some x => encV x | none => z

theorem run_lookup_kv (L : KeyLaw P kt enc) (hT : P.underlying T = some (.map kt et)) {z : Value} (hz : ∀ w, (zeroValue et).run P w = .ok z w) (hm : MapAt w b enc encV kv) (k : K) :
    (Instr.lookup T (.map (some b)) (enc k) true).run P w = .ok (.tuple #[lookV encV z (getKV k kv), .bool (getKV k kv).isSome]) w ∧
    (Instr.lookup T (.map (some b)) (enc k) false).run P w = .ok (lookV encV z (getKV k kv)) w := by
  obtain ⟨es, ck, hb, hkv, _⟩ := hm
  have hf := run_findKey (encV := encV) L k es.toList kv hkv w
  have hg := findKV_get k kv 0
  have hgo : (getObj b).run P w = .ok (.map es ck) w := by simp [getObj, Sem.run, hb]
  have hc := L.check es.isEmpty k w
  cases hfk : findKV k kv 0 with
  | none =>
    rw [hfk] at hf hg
    simp only [Option.map_none] at hf hg
    rw [← hg]
    constructor <;> simp [Instr.lookup, run_underlying hT, hgo, hc, hf, hz w, lookV, Result.andThen]
  | some p =>
    obtain ⟨i, v⟩ := p
    rw [hfk] at hf hg
    simp only [Option.map_some] at hf hg
    rw [← hg]
    constructor <;> simp [Instr.lookup, run_underlying hT, hgo, hc, hf, lookV, Result.andThen]

/-- a world in which one map was turned -/
def MapPut (w : World) (b : Nat) (w' : World) : Prop := ∃ es ck es0 ck0, w.heap[b]? = some (.map es0 ck0) ∧ w' = w.putObj b (.map es ck)

theorem MapPut.cell {w' : World} (h : MapPut w b w') (a : Addr) : w'.cell? a = w.cell? a := by
  obtain ⟨es, ck, es0, ck0, hb, rfl⟩ := h
  exact putObj_cell hb (fun _ _ _ => by simp) (fun _ _ _ => by simp) a
theorem MapPut.frozen {w' : World} (h : MapPut w b w') (a : Addr) : w'.frozen? a = w.frozen? a := by
  obtain ⟨es, ck, es0, ck0, hb, rfl⟩ := h
  exact putObj_frozen hb (fun _ _ _ => by simp) (fun _ _ _ => by simp) a
theorem MapPut.other {w' : World} (h : MapPut w b w') (k : Nat) (hk : k ≠ b) : w'.heap[k]? = w.heap[k]? := by
  obtain ⟨es, ck, es0, ck0, hb, rfl⟩ := h
  exact World.putObj_heap_other hk
theorem MapPut.size {w' : World} (h : MapPut w b w') : w'.heap.size = w.heap.size := by
  obtain ⟨es, ck, es0, ck0, hb, rfl⟩ := h
  simp
theorem MapPut.new {w0 w' : World} (h : MapPut w b w') (hn : New w0 w) (hb : w0.heap.size ≤ b) : New w0 w' := by
  obtain ⟨es, ck, es0, ck0, _, rfl⟩ := h
  exact hn.putObj b _ hb
omit [DecidableEq K] in
theorem MapAt.map {encV' : V → Value} (hm : MapAt w b enc encV' kv) : ∃ es ck, w.heap[b]? = some (.map es ck) := by
  obtain ⟨es, ck, hb, _⟩ := hm
  exact ⟨es, ck, hb⟩

theorem map_erase {α β : Type} (f : α → β) : ∀ (l : List α) (i : Nat), (l.eraseIdx i).map f = (l.map f).eraseIdx i
  | [], _ => rfl
  | _ :: _, 0 => rfl
  | a :: l, i + 1 => by simp [map_erase f l i]

theorem bornOk_push {es : Array MapEntry} {ck : Nat} (h : BornOk es ck) (e : MapEntry) (he : e.born = ck) : BornOk (es.push e) (ck + 1) := by
  constructor
  · rw [Array.toList_push, List.pairwise_append]
    refine ⟨h.1, by simp, ?_⟩
    intro a ha c hc
    simp at hc; subst hc
    rw [he]; exact h.2 a ha
  · intro a ha
    rw [Array.toList_push, List.mem_append] at ha
    rcases ha with ha | ha
    · have := h.2 a ha; omega
    · simp at ha; subst ha; omega
theorem bornOk_of_borns {es es' : Array MapEntry} {ck : Nat} (h : BornOk es ck) (hs : (es'.toList.map (·.born)).Sublist (es.toList.map (·.born))) : BornOk es' ck := by
  have h1 : (es.toList.map (·.born)).Pairwise (· < ·) := List.pairwise_map.2 h.1
  refine ⟨List.pairwise_map.1 (h1.sublist hs), ?_⟩
  intro e he
  have : e.born ∈ es.toList.map (·.born) := hs.subset (List.mem_map_of_mem he)
  obtain ⟨a, ha, hb⟩ := List.mem_map.1 this
  rw [← hb]; exact h.2 a ha

theorem run_update_kv (L : KeyLaw P kt enc) (hT : P.underlying T = some (.map kt et)) (hm : MapAt w b enc encV kv) (k : K) (x : V) :
    ∃ w', (Instr.mapUpdate T (.map (some b)) (enc k) (encV x)).run P w = .ok () w' ∧ MapPut w b w' ∧ MapAt w' b enc encV (putKV k x kv) := by
  obtain ⟨es, ck, hb, hkv, hB⟩ := hm
  have hlt := (Array.getElem?_eq_some_iff.1 hb).1
  have hf := run_findKey (encV := encV) L k es.toList kv hkv w
  have hgo : (getObj b).run P w = .ok (.map es ck) w := by simp [getObj, Sem.run, hb]
  have hset : ∀ o, (setObj b o).run P w = .ok () (w.putObj b o) := fun o => by simp [setObj, Sem.run, hb, World.putObj]
  have hc := L.check false k w
  have hlen : es.toList.length = kv.length := by have := congrArg List.length hkv; simpa using this
  cases hfk : findKV k kv 0 with
  | none =>
    rw [hfk] at hf
    simp only [Option.map_none] at hf
    refine ⟨w.putObj b (.map (es.push { key := enc k, val := encV x, born := ck }) (ck + 1)), ?_, ⟨_, _, _, _, hb, rfl⟩, ?_⟩
    · simp [Instr.mapUpdate, run_underlying hT, hgo, hc, hf, Result.andThen, hset]
    · refine ⟨_, _, World.putObj_heap_same hlt, ?_, bornOk_push hB _ rfl⟩
      rw [(findKV_none k x kv 0 hfk).1]
      simp [hkv]
  | some p =>
    obtain ⟨i, v⟩ := p
    rw [hfk] at hf
    simp only [Option.map_some] at hf
    obtain ⟨h1, h2, h3, h4, _⟩ := findKV_put k x kv 0 i v hfk
    simp only [Nat.sub_zero] at h2 h3 h4
    have hi : i < es.size := by rw [← Array.length_toList, hlen]; exact h2
    have hki : es[i].key = enc k := by
      have e1 : (es.toList.map (fun e => (e.key, e.val)))[i]? = some (es[i].key, es[i].val) := by simp [hi]
      rw [hkv, List.getElem?_map] at e1
      rw [List.getElem?_eq_getElem h2] at e1 h4
      simp at e1 h4
      rw [← e1.1, h4]
    have hkts : (Instr.keyThatStays (enc k) (enc k)).run P w = .ok (enc k) w := by simp [Instr.keyThatStays, L.bits]
    refine ⟨w.putObj b (.map (es.modify i fun e => { e with key := enc k, val := encV x }) ck), ?_, ⟨_, _, _, _, hb, rfl⟩, ?_⟩
    · have e2 : (Option.map (fun x => x.key) es[i]?).getD (enc k) = enc k := by simp [hi, hki]
      simp [Instr.mapUpdate, run_underlying hT, hgo, hc, hf, Result.andThen, hki, hi, hkts, hset]
    · refine ⟨_, _, World.putObj_heap_same hlt, ?_, bornOk_of_borns hB ?_⟩
      · rw [h3, List.map_set, ← hkv]
        apply List.ext_getElem?
        intro j
        simp only [List.getElem?_map, Array.getElem?_toList, Array.getElem?_modify, List.getElem?_set, List.length_map, Array.length_toList]
        by_cases hj : i = j
        · subst hj; simp [hi]
        · simp [hj]
      · have e3 : (es.modify i fun e => { e with key := enc k, val := encV x }).toList.map (·.born) = es.toList.map (·.born) := by
          apply List.ext_getElem?
          intro j
          simp only [List.getElem?_map, Array.getElem?_toList, Array.getElem?_modify]
          by_cases hj : i = j
          · subst hj; simp [hi]
          · simp [hj]
        rw [e3]
        exact List.Sublist.refl _

theorem run_delete_kv (L : KeyLaw P kt enc) (hT : P.underlying T = some (.map kt et)) (hm : MapAt w b enc encV kv) (k : K) (ty kT : TypeId) :
    ∃ w', (Builtin.delete_ #[T, kT] ty #[.map (some b), enc k]).run P w = .ok (.tuple #[]) w' ∧ MapPut w b w' ∧ MapAt w' b enc encV (delKV k kv) := by
  obtain ⟨es, ck, hb, hkv, hB⟩ := hm
  have hlt := (Array.getElem?_eq_some_iff.1 hb).1
  have hf := run_findKey (encV := encV) L k es.toList kv hkv w
  have hgo : (getObj b).run P w = .ok (.map es ck) w := by simp [getObj, Sem.run, hb]
  have hset : ∀ o, (setObj b o).run P w = .ok () (w.putObj b o) := fun o => by simp [setObj, Sem.run, hb, World.putObj]
  have hc := L.check es.isEmpty k w
  have hlen : es.toList.length = kv.length := by have := congrArg List.length hkv; simpa using this
  cases hfk : findKV k kv 0 with
  | none =>
    rw [hfk] at hf
    simp only [Option.map_none] at hf
    refine ⟨w.putObj b (.map es ck), ?_, ⟨_, _, _, _, hb, rfl⟩, ?_⟩
    · simp [Builtin.delete_, run_underlying hT, hgo, hc, hf, Result.andThen, hset]
    · refine ⟨_, _, World.putObj_heap_same hlt, ?_, hB⟩
      cases kv with
      | nil => exact hkv
      | cons p l => rw [(findKV_none k p.2 (p :: l) 0 hfk).2]; exact hkv
  | some p =>
    obtain ⟨i, v⟩ := p
    rw [hfk] at hf
    simp only [Option.map_some] at hf
    obtain ⟨h1, h2, _, _, h5⟩ := findKV_put k v kv 0 i v hfk
    simp only [Nat.sub_zero] at h2 h5
    refine ⟨w.putObj b (.map (es.eraseIdxIfInBounds i) ck), ?_, ⟨_, _, _, _, hb, rfl⟩, ?_⟩
    · simp [Builtin.delete_, run_underlying hT, hgo, hc, hf, Result.andThen, hset]
    · have hi : i < es.size := by rw [← Array.length_toList, hlen]; exact h2
      have he : (es.eraseIdxIfInBounds i).toList = es.toList.eraseIdx i := by
        unfold Array.eraseIdxIfInBounds
        rw [dif_pos hi]; simp
      refine ⟨_, _, World.putObj_heap_same hlt, ?_, bornOk_of_borns hB ?_⟩
      · rw [h5, he, map_erase, hkv, map_erase]
      · rw [he]
        exact ((List.eraseIdx_sublist _ _).map _)

omit [DecidableEq K] in
theorem run_len_kv (hT : P.underlying T = some (.map kt et)) (hm : MapAt w b enc encV kv) (ty : TypeId) :
    (Builtin.len_ #[T] ty #[.map (some b)]).run P w = .ok (.int .i64 kv.length) w := by
  obtain ⟨es, ck, hb, hkv, hB⟩ := hm
  have hgo : (getObj b).run P w = .ok (.map es ck) w := by simp [getObj, Sem.run, hb]
  have hlen : es.toList.length = kv.length := by have := congrArg List.length hkv; simpa using this
  have hl : es.size = kv.length := by simpa using hlen
  simp [Builtin.len_, run_underlying hT, hgo, Result.andThen, hl, goInt]
end

theorem eq_st (a b c d : Int) (w : World) : (Op.equal 26 (.agg #[.int .i64 a, .int .i64 b]) (.agg #[.int .i64 c, .int .i64 d])).run Tryz.prog w = .ok (a == c && b == d) w := by
  show (Op.equalIn (9999 + 1) 26 _ _).run Tryz.prog w = _
  have hu := Tryz.underlying2
  have hv := Tryz.underlying3
  go_simp
  by_cases h1 : a = c <;> by_cases h2 : b = d <;> simp [h1, h2]

theorem keySt : KeyLaw Tryz.prog 26 St.v where
  check e a w := by kernel_rfl
  eq a b w := by
    unfold St.v
    rw [eq_st]
    congr 1
    cases a with
    | mk a1 a2 =>
      cases b with
      | mk b1 b2 =>
        rw [Bool.eq_iff_iff]
        simp
  desc := ⟨_, Tryz.underlying26, fun _ _ => rfl⟩
  bits a := by simp [St.v, Instr.sameBits]

/-- a name in a directory -/
structure Pl where
  at_ : St
  name : ByteArray
  deriving DecidableEq, Inhabited
def Pl.v (p : Pl) : Value := .agg #[.int .i64 p.at_.t, .int .i64 p.at_.r, .string p.name]

theorem eq_pl (a b c d : Int) (s t : ByteArray) (w : World) : (Op.equal 110 (.agg #[.int .i64 a, .int .i64 b, .string s]) (.agg #[.int .i64 c, .int .i64 d, .string t])).run Tryz.prog w = .ok ((a == c && b == d) && s.toList == t.toList) w := by
  show (Op.equalIn (9999 + 1) 110 _ _).run Tryz.prog w = _
  have hu := Tryz.underlying2
  have hv := Tryz.underlying3
  have hs := Tryz.underlying9
  go_simp
  by_cases h1 : a = c <;> by_cases h2 : b = d <;> by_cases h3 : s.toList = t.toList <;> simp [h1, h2, h3]

theorem toList_inj (s t : ByteArray) : (s.toList == t.toList) = decide (s = t) := by
  rw [Bool.eq_iff_iff]
  simp only [beq_iff_eq, decide_eq_true_eq, ByteArray.toList_eq]
  constructor
  · intro h; apply ByteArray.ext; apply Array.ext'; exact h
  · intro h; rw [h]

theorem keyPl : KeyLaw Tryz.prog 110 Pl.v where
  check e a w := by kernel_rfl
  eq a b w := by
    unfold Pl.v
    rw [eq_pl, toList_inj]
    congr 1
    cases a with
    | mk a1 a2 =>
      cases b with
      | mk b1 b2 =>
        cases a1; cases b1
        rw [Bool.eq_iff_iff]
        simp
  desc := ⟨_, Tryz.underlying110, fun _ _ => rfl⟩
  bits a := by simp [Pl.v, Instr.sameBits, beq_toListBytes]
end Go.Proofs.YtfbjiaedfmdcfaaGreatDoor

/-! ## Cmp -/
namespace Go.Proofs.YtfbjiaedfmdcfaaGreatDoor
open Go.RowKit

def cmpI (a b : Int) : Int := if a < b then -1 else if b < a then 1 else 0
def orI (a b : Int) : Int := if a = 0 then b else a

set_option maxRecDepth 100000 in
set_option maxHeartbeats 400000 in
theorem isNaN64_any (a : Int) (w : World) : Calls Tryz.prog 148 #[.int .i64 a] w fun e w' => e = .returned (.bool false) ∧ w' = w := by
  have e : (a != a) = false := by simp
  go_enter Tryz.func148, Tryz.ntmps148
  go_wp2
  go_ret
  exact ⟨rfl, rfl⟩

set_option maxRecDepth 100000 in
set_option maxHeartbeats 400000 in
theorem isNaNi_any (a : Int) (w : World) : Calls Tryz.prog 149 #[.int .i64 a] w fun e w' => e = .returned (.bool false) ∧ w' = w := by
  have e : (a != a) = false := by simp
  go_enter Tryz.func149, Tryz.ntmps149
  go_wp2
  go_ret
  exact ⟨rfl, rfl⟩

set_option maxRecDepth 100000 in
set_option maxHeartbeats 400000 in
theorem isNaNs_any (a : ByteArray) (w : World) : Calls Tryz.prog 130 #[.string a] w fun e w' => e = .returned (.bool false) ∧ w' = w := by
  have e : (a.toList != a.toList) = false := by simp
  go_enter Tryz.func130, Tryz.ntmps130
  go_wp2
  go_ret
  exact ⟨rfl, rfl⟩

set_option maxRecDepth 100000 in
set_option maxHeartbeats 400000 in
theorem cmp64_any (a b : Int) (w : World) : Calls Tryz.prog 108 #[.int .i64 a, .int .i64 b] w fun e w' => e = .returned (.int .i64 (cmpI a b)) ∧ w' = w := by
  by_cases h1 : a < b
  · have hr : cmpI a b = -1 := by simp [cmpI, h1]
    rw [hr]; clear hr
    go_enter Tryz.func108, Tryz.ntmps108
    go_wp2_with (go_at_call 148; refine (isNaN64_any _ _).mono ?_; rintro e w' ⟨rfl, rfl⟩)
    go_ret
    exact ⟨rfl, rfl⟩
  by_cases h2 : b < a
  · have hr : cmpI a b = 1 := by simp [cmpI, h1, h2]
    rw [hr]; clear hr
    go_enter Tryz.func108, Tryz.ntmps108
    go_wp2_with (go_at_call 148; refine (isNaN64_any _ _).mono ?_; rintro e w' ⟨rfl, rfl⟩)
    go_ret
    exact ⟨rfl, rfl⟩
  have hr : cmpI a b = 0 := by simp [cmpI, h1, h2]
  rw [hr]; clear hr
  go_enter Tryz.func108, Tryz.ntmps108
  go_wp2_with (go_at_call 148; refine (isNaN64_any _ _).mono ?_; rintro e w' ⟨rfl, rfl⟩)
  go_ret
  exact ⟨rfl, rfl⟩

set_option maxRecDepth 100000 in
set_option maxHeartbeats 400000 in
theorem cmpi_any (a b : Int) (w : World) : Calls Tryz.prog 109 #[.int .i64 a, .int .i64 b] w fun e w' => e = .returned (.int .i64 (cmpI a b)) ∧ w' = w := by
  by_cases h1 : a < b
  · have hr : cmpI a b = -1 := by simp [cmpI, h1]
    rw [hr]; clear hr
    go_enter Tryz.func109, Tryz.ntmps109
    go_wp2_with (go_at_call 149; refine (isNaNi_any _ _).mono ?_; rintro e w' ⟨rfl, rfl⟩)
    go_ret
    exact ⟨rfl, rfl⟩
  by_cases h2 : b < a
  · have hr : cmpI a b = 1 := by simp [cmpI, h1, h2]
    rw [hr]; clear hr
    go_enter Tryz.func109, Tryz.ntmps109
    go_wp2_with (go_at_call 149; refine (isNaNi_any _ _).mono ?_; rintro e w' ⟨rfl, rfl⟩)
    go_ret
    exact ⟨rfl, rfl⟩
  have hr : cmpI a b = 0 := by simp [cmpI, h1, h2]
  rw [hr]; clear hr
  go_enter Tryz.func109, Tryz.ntmps109
  go_wp2_with (go_at_call 149; refine (isNaNi_any _ _).mono ?_; rintro e w' ⟨rfl, rfl⟩)
  go_ret
  exact ⟨rfl, rfl⟩

/-- texts, byte by byte -/
def lessB (a b : ByteArray) : Bool := Op.bytesLess a.toList b.toList
def cmpB (a b : ByteArray) : Int := if lessB a b then -1 else if !lessB a b && !(a.toList == b.toList) then 1 else 0

set_option maxRecDepth 100000 in
set_option maxHeartbeats 400000 in
theorem cmps_any (a b : ByteArray) (w : World) : Calls Tryz.prog 89 #[.string a, .string b] w fun e w' => e = .returned (.int .i64 (cmpB a b)) ∧ w' = w := by
  have key : ∀ c d : Bool, Op.bytesLess a.toList b.toList = c → (a.toList == b.toList) = d → Calls Tryz.prog 89 #[.string a, .string b] w fun e w' => e = .returned (.int .i64 (if c then -1 else if !c && !d then 1 else 0)) ∧ w' = w := by
    intro c d hc hd
    cases c
    all_goals
      cases d
      all_goals
        go_enter Tryz.func89, Tryz.ntmps89
        go_wp2_with (go_at_call 130; refine (isNaNs_any _ _).mono ?_; rintro e w' ⟨rfl, rfl⟩)
        go_ret
        exact ⟨rfl, rfl⟩
  exact key _ _ rfl rfl

set_option maxRecDepth 100000 in
set_option maxHeartbeats 400000 in
theorem or2_any (b : Nat) (x y : Int) (c : Nat) (w : World) (h0 : w.cell? ⟨b, 0, none⟩ = some (.int .i64 x)) (h1 : w.cell? ⟨b, 1, none⟩ = some (.int .i64 y)) :
    Calls Tryz.prog 88 #[.slice (some ⟨b, 0, none⟩) 2 c] w fun e w' => e = .returned (.int .i64 (orI x y)) ∧ w' = w := by
  by_cases hx : x = 0
  · subst hx
    by_cases hy : y = 0
    · subst hy
      have hr : orI 0 0 = 0 := rfl
      rw [hr]; clear hr
      go_enter Tryz.func88, Tryz.ntmps88
      go_wp2
      refine wp_loop_rounds 3 ?_
      rw [rounds_succ]
      go_wp2
      rw [rounds_succ]
      go_wp2
      rw [rounds_succ]
      go_wp2
      go_ret
      exact ⟨rfl, rfl⟩
    · have hr : orI 0 y = y := rfl
      have hy' : (y != 0) = true := by rw [bne_iff_ne]; exact hy
      rw [hr]; clear hr
      go_enter Tryz.func88, Tryz.ntmps88
      go_wp2
      refine wp_loop_rounds 2 ?_
      rw [rounds_succ]
      go_wp2
      rw [rounds_succ]
      go_wp2
      go_ret
      exact ⟨rfl, rfl⟩
  · have hr : orI x y = x := by simp [orI, hx]
    have hx' : (x != 0) = true := by rw [bne_iff_ne]; exact hx
    rw [hr]; clear hr
    go_enter Tryz.func88, Tryz.ntmps88
    go_wp2
    refine wp_loop_rounds 1 ?_
    rw [rounds_succ]
    go_wp2
    go_ret
    exact ⟨rfl, rfl⟩

def cmpSt (a b c d : Int) : Int := orI (cmpI a c) (cmpI b d)

set_option maxRecDepth 100000 in
set_option maxHeartbeats 800000 in
theorem stCompare_any (a b c d : Int) (w : World) :
    Calls Tryz.prog 70 #[.agg #[.int .i64 a, .int .i64 b], .agg #[.int .i64 c, .int .i64 d]] w fun e w' => e = .returned (.int .i64 (cmpSt a b c d)) ∧ New w w' := by
  go_enter Tryz.func70, Tryz.ntmps70
  go_wp2_with fail
  refine region_tail 10 (by kernel_rfl) (by kernel_rfl) ?_
  simp only [List.take_succ_cons, List.take_zero, List.drop_succ_cons, List.drop_zero]
  intro W hc hh hN
  have c0 : W.cell? ⟨w.heap.size, 0, none⟩ = some (.int .i64 a) := by rw [hc]; go_simp
  have c1 : W.cell? ⟨w.heap.size, 1, none⟩ = some (.int .i64 b) := by rw [hc]; go_simp
  have c2 : W.cell? ⟨w.heap.size + 1, 0, none⟩ = some (.int .i64 c) := by rw [hc]; go_simp
  have c3 : W.cell? ⟨w.heap.size + 1, 1, none⟩ = some (.int .i64 d) := by rw [hc]; go_simp
  have hN' : New w W := ((New.alloc' w _).alloc _).trans hN
  clear hc hh hN
  still_step
  still_step
  still_step
  still_step
  still_call (cmp64_any _ _ _)
  still_step
  still_step
  still_step
  still_step
  still_call (cmpi_any _ _ _)
  refine wpStill_nil ?_
  go_wp2_with fail
  refine (or2_any _ (cmpI a c) (cmpI b d) _ _ ?_ ?_).mono ?_
  · go_simp
  · go_simp
  rintro e w' ⟨rfl, rfl⟩
  go_wp2
  go_ret
  exact ⟨rfl, hN'.alloc _⟩

/-- may a stamp be? as stamp.May tells it -/
def mayB (t r : Int) : Bool := (decide (t = 0) && decide (r = 0)) || (decide (1 ≤ t) && (decide (t ≤ 1073741824) && (decide (0 ≤ r) && decide (r < 8))))

set_option maxRecDepth 100000 in
set_option maxHeartbeats 400000 in
theorem rep_any (r : Int) (w : World) : Calls Tryz.prog 124 #[.int .i64 r] w fun e w' => e = .returned (.bool (decide (0 ≤ r) && decide (r < 8))) ∧ w' = w := by
  by_cases h : 0 ≤ r
  · rw [decide_eq_true h]
    go_enter Tryz.func124, Tryz.ntmps124
    go_wp2
    go_ret
    exact ⟨by simp, rfl⟩
  · rw [decide_eq_false h]
    go_enter Tryz.func124, Tryz.ntmps124
    go_wp2
    go_ret
    exact ⟨rfl, rfl⟩

set_option maxRecDepth 100000 in
set_option maxHeartbeats 800000 in
theorem may_any (t r : Int) (w : World) : Calls Tryz.prog 82 #[.agg #[.int .i64 t, .int .i64 r]] w fun e w' => e = .returned (.bool (mayB t r)) ∧ New w w' := by
  by_cases h0 : t = 0 ∧ r = 0
  · obtain ⟨rfl, rfl⟩ := h0
    have hr : mayB 0 0 = true := rfl
    rw [hr]; clear hr
    go_enter Tryz.func82, Tryz.ntmps82
    go_wp2
    go_ret
    exact ⟨rfl, New.alloc' _ _⟩
  have e0 : (t == 0 && r == 0) = false := by
    rw [Bool.and_eq_false_iff]
    by_cases ht : t = 0
    · exact .inr (beq_eq_false_iff_ne.2 (fun hr => h0 ⟨ht, hr⟩))
    · exact .inl (beq_eq_false_iff_ne.2 ht)
  have hm : mayB t r = (decide (1 ≤ t) && (decide (t ≤ 1073741824) && (decide (0 ≤ r) && decide (r < 8)))) := by
    unfold mayB
    have : (decide (t = 0) && decide (r = 0)) = false := by
      rw [Bool.and_eq_false_iff, decide_eq_false_iff_not, decide_eq_false_iff_not]
      by_cases ht : t = 0
      · exact .inr (fun hr => h0 ⟨ht, hr⟩)
      · exact .inl ht
    rw [this]; rfl
  rw [hm]
  clear hm
  have HH := Lib.hid h0
  clear h0
  by_cases h1 : 1 ≤ t
  · by_cases h2 : t ≤ 1073741824
    · rw [decide_eq_true h1, decide_eq_true h2]
      go_enter Tryz.func82, Tryz.ntmps82
      go_wp2_with (go_at_call 124; refine (rep_any _ _).mono ?_; rintro e w' ⟨rfl, rfl⟩)
      go_ret
      exact ⟨by simp, New.alloc' _ _⟩
    · rw [decide_eq_true h1, decide_eq_false h2]
      go_enter Tryz.func82, Tryz.ntmps82
      go_wp2_with (go_at_call 124; refine (rep_any _ _).mono ?_; rintro e w' ⟨rfl, rfl⟩)
      go_ret
      exact ⟨by simp, New.alloc' _ _⟩
  · rw [decide_eq_false h1]
    by_cases ht : t = 0
    · subst ht
      have hr : (r == 0) = false := beq_eq_false_iff_ne.2 (fun h => HH.out ⟨rfl, h⟩)
      clear e0
      go_enter Tryz.func82, Tryz.ntmps82
      go_wp2_with (go_at_call 124; refine (rep_any _ _).mono ?_; rintro e w' ⟨rfl, rfl⟩)
      go_ret
      exact ⟨by simp, New.alloc' _ _⟩
    · have hr : (t == 0) = false := beq_eq_false_iff_ne.2 ht
      clear e0 ht
      go_enter Tryz.func82, Tryz.ntmps82
      go_wp2_with (go_at_call 124; refine (rep_any _ _).mono ?_; rintro e w' ⟨rfl, rfl⟩)
      go_ret
      exact ⟨by simp, New.alloc' _ _⟩
end Go.Proofs.YtfbjiaedfmdcfaaGreatDoor
