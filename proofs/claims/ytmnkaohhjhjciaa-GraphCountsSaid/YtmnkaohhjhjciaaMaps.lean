/-
  Maps whose keys are stamps, as lists of pairs: lookup, store, delete, len; no condition.
-/
import Derived.Test.YtmnkaohhjhjciaaBase
namespace Go.Proofs.Ytmnkaohhjhjciaa
open Go.RowKit

/-- a stamp -/
structure St where
  t : Int
  r : Int
  deriving DecidableEq, Inhabited
def St.cells (s : St) : List Value := [.int .i64 s.t, .int .i64 s.r]
def St.v (s : St) : Value := .agg #[.int .i64 s.t, .int .i64 s.r]

/-- an inode -/
structure Ino where
  id : St
  kind : Int
  links : Int
  mode : Int
  data : ByteArray
  deriving DecidableEq, Inhabited
def Ino.cells (i : Ino) : List Value := [.int .i64 i.id.t, .int .i64 i.id.r, .int .i64 i.kind, .int .i64 i.links, .int .i64 i.mode, .string i.data]
def Ino.v (i : Ino) : Value := .agg #[.int .i64 i.id.t, .int .i64 i.id.r, .int .i64 i.kind, .int .i64 i.links, .int .i64 i.mode, .string i.data]

/-- an entry -/
structure Ent where
  at_ : St
  name : ByteArray
  ino : St
  deriving DecidableEq, Inhabited
def Ent.cells (e : Ent) : List Value := [.int .i64 e.at_.t, .int .i64 e.at_.r, .string e.name, .int .i64 e.ino.t, .int .i64 e.ino.r]
def Ent.v (e : Ent) : Value := .agg #[.int .i64 e.at_.t, .int .i64 e.at_.r, .string e.name, .int .i64 e.ino.t, .int .i64 e.ino.r]

/-- what is asked of a key type -/
structure KeyLaw {K : Type} [DecidableEq K] (P : Program) (kt : TypeId) (enc : K → Value) : Prop where
  check : ∀ e a w, (Instr.checkKey e 10000 kt (enc a)).run P w = .ok () w
  eq : ∀ a b w, (Op.equal kt (enc a) (enc b)).run P w = .ok (decide (a = b)) w
  desc : ∃ d, P.underlying kt = some d ∧ ∀ a b, Instr.sameNow d (enc a) (enc b) = none
  bits : ∀ a, Instr.sameBits 10000 (enc a) (enc a) = true

/-- the place of a key in a list of pairs -/
def findKV {K V : Type} [DecidableEq K] (k : K) : List (K × V) → Nat → Option (Nat × V)
  | [], _ => none
  | (a, v) :: l, i => if k = a then some (i, v) else findKV k l (i + 1)
def getKV {K V : Type} [DecidableEq K] (k : K) : List (K × V) → Option V
  | [] => none
  | (a, v) :: l => if k = a then some v else getKV k l
def putKV {K V : Type} [DecidableEq K] (k : K) (x : V) : List (K × V) → List (K × V)
  | [] => [(k, x)]
  | (a, v) :: l => if k = a then (k, x) :: l else (a, v) :: putKV k x l
def delKV {K V : Type} [DecidableEq K] (k : K) : List (K × V) → List (K × V)
  | [] => []
  | (a, v) :: l => if k = a then l else (a, v) :: delKV k l

theorem findKV_get {K V : Type} [DecidableEq K] (k : K) : ∀ (l : List (K × V)) (i : Nat), (findKV k l i).map (·.2) = getKV k l
  | [], _ => rfl
  | (a, v) :: l, i => by
    unfold findKV getKV
    by_cases h : k = a
    · rw [if_pos h, if_pos h]; rfl
    · rw [if_neg h, if_neg h]; exact findKV_get k l (i + 1)
theorem findKV_put {K V : Type} [DecidableEq K] (k : K) (x : V) : ∀ (l : List (K × V)) (i j : Nat) (v : V), findKV k l i = some (j, v) → i ≤ j ∧ j - i < l.length ∧ putKV k x l = l.set (j - i) (k, x) ∧ (l[j - i]?).map (·.1) = some k ∧ delKV k l = l.eraseIdx (j - i)
  | [], _, _, _, h => by simp [findKV] at h
  | (a, u) :: l, i, j, v, h => by
    unfold findKV at h
    by_cases e : k = a
    · rw [if_pos e] at h
      obtain ⟨rfl, rfl⟩ := Prod.mk.inj (Option.some.inj h)
      refine ⟨Nat.le_refl _, by simp, ?_, ?_, ?_⟩
      · simp [putKV, e]
      · simp [e]
      · simp [delKV, e]
    · rw [if_neg e] at h
      obtain ⟨h1, h2, h3, h4, h5⟩ := findKV_put k x l (i + 1) j v h
      have hj : j - i = (j - (i + 1)) + 1 := by omega
      refine ⟨by omega, by simp; omega, ?_, ?_, ?_⟩
      · rw [hj]; simp only [putKV, e, if_false, h3, List.set_cons_succ]
      · rw [hj]; simpa using h4
      · rw [hj]; simp only [delKV, e, if_false, h5, List.eraseIdx_cons_succ]
theorem findKV_none {K V : Type} [DecidableEq K] (k : K) (x : V) : ∀ (l : List (K × V)) (i : Nat), findKV k l i = none → putKV k x l = l ++ [(k, x)] ∧ delKV k l = l
  | [], _, _ => ⟨rfl, rfl⟩
  | (a, u) :: l, i, h => by
    unfold findKV at h
    by_cases e : k = a
    · rw [if_pos e] at h; cases h
    · rw [if_neg e] at h
      obtain ⟨h1, h2⟩ := findKV_none k x l (i + 1) h
      exact ⟨by simp [putKV, e, h1], by simp [delKV, e, h2]⟩

/-- the births of a map's entries rise -/
def BornOk (es : Array MapEntry) (ck : Nat) : Prop := es.toList.Pairwise (fun a b => a.born < b.born) ∧ ∀ e ∈ es.toList, e.born < ck

/-- block b is a map that holds these pairs, in this order -/
def MapAt {K V : Type} (w : World) (b : Nat) (enc : K → Value) (encV : V → Value) (kv : List (K × V)) : Prop :=
  ∃ es ck, w.heap[b]? = some (.map es ck) ∧ es.toList.map (fun e => (e.key, e.val)) = kv.map (fun p => (enc p.1, encV p.2)) ∧ BornOk es ck

section
variable {K V : Type} [DecidableEq K] {P : Program} {kt et T : TypeId} {enc : K → Value} {encV : V → Value} {kv : List (K × V)} {w : World} {b : Nat}

theorem run_findAsking (L : KeyLaw P kt enc) (k : K) : ∀ (es : List MapEntry) (kv : List (K × V)), es.map (fun e => (e.key, e.val)) = kv.map (fun p => (enc p.1, encV p.2)) → ∀ (i : Nat) (w : World),
    (Instr.findAsking kt (enc k) es i).run P w = .ok ((findKV k kv i).map fun p => (p.1, encV p.2)) w
  | [], [], _, i, w => rfl
  | [], _ :: _, h, _, _ => by simp at h
  | _ :: _, [], h, _, _ => by simp at h
  | e :: es, (a, v) :: kv, h, i, w => by
    simp only [List.map_cons, List.cons.injEq, Prod.mk.injEq] at h
    obtain ⟨⟨h1, h2⟩, h3⟩ := h
    simp only [Instr.findAsking, Sem.run_bind, h1, L.eq, Result.andThen, findKV]
    by_cases hk : k = a
    · simp [hk, h2]
    · simp only [hk, decide_false, if_false]
      exact run_findAsking L k es kv h3 (i + 1) w

theorem run_findKey (L : KeyLaw P kt enc) (k : K) (es : List MapEntry) (kv : List (K × V)) (h : es.map (fun e => (e.key, e.val)) = kv.map (fun p => (enc p.1, encV p.2))) (w : World) :
    (Instr.findKey kt (enc k) es).run P w = .ok ((findKV k kv 0).map fun p => (p.1, encV p.2)) w := by
  obtain ⟨d, hd, hs⟩ := L.desc
  cases es with
  | nil =>
    cases kv with
    | nil => simp [Instr.findKey, run_underlying hd, Instr.findNow, findKV]
    | cons p kv => simp at h
  | cons e es =>
    cases kv with
    | nil => simp at h
    | cons p kv =>
      have h' := h
      simp only [List.map_cons, List.cons.injEq, Prod.mk.injEq] at h'
      have hn : Instr.findNow d (enc k) (e :: es) 0 = none := by
        unfold Instr.findNow
        rw [h'.1.1, hs]
      simp only [Instr.findKey, Sem.run_bind, run_underlying hd, Result.andThen, hn]
      exact run_findAsking L k _ _ h 0 w

/-- what a lookup tells -/
def lookV (encV : V → Value) (z : Value) (o : Option V) : Value := match o with | some x => encV x | none => z

theorem run_lookup_kv (L : KeyLaw P kt enc) (hT : P.underlying T = some (.map kt et)) {z : Value} (hz : ∀ w, (zeroValue et).run P w = .ok z w) (hm : MapAt w b enc encV kv) (k : K) :
    (Instr.lookup T (.map (some b)) (enc k) true).run P w = .ok (.tuple #[lookV encV z (getKV k kv), .bool (getKV k kv).isSome]) w ∧
    (Instr.lookup T (.map (some b)) (enc k) false).run P w = .ok (lookV encV z (getKV k kv)) w := by
  obtain ⟨es, ck, hb, hkv, _⟩ := hm
  have hf := run_findKey (encV := encV) L k es.toList kv hkv w
  have hg := findKV_get k kv 0
  have hgo : (getObj b).run P w = .ok (.map es ck) w := by simp [getObj, Sem.run, hb]
  have hc := L.check es.isEmpty k w
  cases hfk : findKV k kv 0 with
  | none =>
    rw [hfk] at hf hg
    simp only [Option.map_none] at hf hg
    rw [← hg]
    constructor <;> simp [Instr.lookup, run_underlying hT, hgo, hc, hf, hz w, lookV, Result.andThen]
  | some p =>
    obtain ⟨i, v⟩ := p
    rw [hfk] at hf hg
    simp only [Option.map_some] at hf hg
    rw [← hg]
    constructor <;> simp [Instr.lookup, run_underlying hT, hgo, hc, hf, lookV, Result.andThen]

/-- a world in which one map was turned -/
def MapPut (w : World) (b : Nat) (w' : World) : Prop := ∃ es ck es0 ck0, w.heap[b]? = some (.map es0 ck0) ∧ w' = w.putObj b (.map es ck)

theorem MapPut.cell {w' : World} (h : MapPut w b w') (a : Addr) : w'.cell? a = w.cell? a := by
  obtain ⟨es, ck, es0, ck0, hb, rfl⟩ := h
  exact putObj_cell hb (fun _ _ _ => by simp) (fun _ _ _ => by simp) a
theorem MapPut.frozen {w' : World} (h : MapPut w b w') (a : Addr) : w'.frozen? a = w.frozen? a := by
  obtain ⟨es, ck, es0, ck0, hb, rfl⟩ := h
  exact putObj_frozen hb (fun _ _ _ => by simp) (fun _ _ _ => by simp) a
theorem MapPut.other {w' : World} (h : MapPut w b w') (k : Nat) (hk : k ≠ b) : w'.heap[k]? = w.heap[k]? := by
  obtain ⟨es, ck, es0, ck0, hb, rfl⟩ := h
  exact World.putObj_heap_other hk
theorem MapPut.size {w' : World} (h : MapPut w b w') : w'.heap.size = w.heap.size := by
  obtain ⟨es, ck, es0, ck0, hb, rfl⟩ := h
  simp
theorem MapPut.new {w0 w' : World} (h : MapPut w b w') (hn : New w0 w) (hb : w0.heap.size ≤ b) : New w0 w' := by
  obtain ⟨es, ck, es0, ck0, _, rfl⟩ := h
  exact hn.putObj b _ hb
omit [DecidableEq K] in
theorem MapAt.map {encV' : V → Value} (hm : MapAt w b enc encV' kv) : ∃ es ck, w.heap[b]? = some (.map es ck) := by
  obtain ⟨es, ck, hb, _⟩ := hm
  exact ⟨es, ck, hb⟩

theorem map_erase {α β : Type} (f : α → β) : ∀ (l : List α) (i : Nat), (l.eraseIdx i).map f = (l.map f).eraseIdx i
  | [], _ => rfl
  | _ :: _, 0 => rfl
  | a :: l, i + 1 => by simp [map_erase f l i]

theorem bornOk_push {es : Array MapEntry} {ck : Nat} (h : BornOk es ck) (e : MapEntry) (he : e.born = ck) : BornOk (es.push e) (ck + 1) := by
  constructor
  · rw [Array.toList_push, List.pairwise_append]
    refine ⟨h.1, by simp, ?_⟩
    intro a ha c hc
    simp at hc; subst hc
    rw [he]; exact h.2 a ha
  · intro a ha
    rw [Array.toList_push, List.mem_append] at ha
    rcases ha with ha | ha
    · have := h.2 a ha; omega
    · simp at ha; subst ha; omega
theorem bornOk_of_borns {es es' : Array MapEntry} {ck : Nat} (h : BornOk es ck) (hs : (es'.toList.map (·.born)).Sublist (es.toList.map (·.born))) : BornOk es' ck := by
  have h1 : (es.toList.map (·.born)).Pairwise (· < ·) := List.pairwise_map.2 h.1
  refine ⟨List.pairwise_map.1 (h1.sublist hs), ?_⟩
  intro e he
  have : e.born ∈ es.toList.map (·.born) := hs.subset (List.mem_map_of_mem he)
  obtain ⟨a, ha, hb⟩ := List.mem_map.1 this
  rw [← hb]; exact h.2 a ha

theorem run_update_kv (L : KeyLaw P kt enc) (hT : P.underlying T = some (.map kt et)) (hm : MapAt w b enc encV kv) (k : K) (x : V) :
    ∃ w', (Instr.mapUpdate T (.map (some b)) (enc k) (encV x)).run P w = .ok () w' ∧ MapPut w b w' ∧ MapAt w' b enc encV (putKV k x kv) := by
  obtain ⟨es, ck, hb, hkv, hB⟩ := hm
  have hlt := (Array.getElem?_eq_some_iff.1 hb).1
  have hf := run_findKey (encV := encV) L k es.toList kv hkv w
  have hgo : (getObj b).run P w = .ok (.map es ck) w := by simp [getObj, Sem.run, hb]
  have hset : ∀ o, (setObj b o).run P w = .ok () (w.putObj b o) := fun o => by simp [setObj, Sem.run, hb, World.putObj]
  have hc := L.check false k w
  have hlen : es.toList.length = kv.length := by have := congrArg List.length hkv; simpa using this
  cases hfk : findKV k kv 0 with
  | none =>
    rw [hfk] at hf
    simp only [Option.map_none] at hf
    refine ⟨w.putObj b (.map (es.push { key := enc k, val := encV x, born := ck }) (ck + 1)), ?_, ⟨_, _, _, _, hb, rfl⟩, ?_⟩
    · simp [Instr.mapUpdate, run_underlying hT, hgo, hc, hf, Result.andThen, hset]
    · refine ⟨_, _, World.putObj_heap_same hlt, ?_, bornOk_push hB _ rfl⟩
      rw [(findKV_none k x kv 0 hfk).1]
      simp [hkv]
  | some p =>
    obtain ⟨i, v⟩ := p
    rw [hfk] at hf
    simp only [Option.map_some] at hf
    obtain ⟨h1, h2, h3, h4, _⟩ := findKV_put k x kv 0 i v hfk
    simp only [Nat.sub_zero] at h2 h3 h4
    have hi : i < es.size := by rw [← Array.length_toList, hlen]; exact h2
    have hki : es[i].key = enc k := by
      have e1 : (es.toList.map (fun e => (e.key, e.val)))[i]? = some (es[i].key, es[i].val) := by simp [hi]
      rw [hkv, List.getElem?_map] at e1
      rw [List.getElem?_eq_getElem h2] at e1 h4
      simp at e1 h4
      rw [← e1.1, h4]
    have hkts : (Instr.keyThatStays (enc k) (enc k)).run P w = .ok (enc k) w := by simp [Instr.keyThatStays, L.bits]
    refine ⟨w.putObj b (.map (es.modify i fun e => { e with key := enc k, val := encV x }) ck), ?_, ⟨_, _, _, _, hb, rfl⟩, ?_⟩
    · have e2 : (Option.map (fun x => x.key) es[i]?).getD (enc k) = enc k := by simp [hi, hki]
      simp [Instr.mapUpdate, run_underlying hT, hgo, hc, hf, Result.andThen, hki, hi, hkts, hset]
    · refine ⟨_, _, World.putObj_heap_same hlt, ?_, bornOk_of_borns hB ?_⟩
      · rw [h3, List.map_set, ← hkv]
        apply List.ext_getElem?
        intro j
        simp only [List.getElem?_map, Array.getElem?_toList, Array.getElem?_modify, List.getElem?_set, List.length_map, Array.length_toList]
        by_cases hj : i = j
        · subst hj; simp [hi]
        · simp [hj]
      · have e3 : (es.modify i fun e => { e with key := enc k, val := encV x }).toList.map (·.born) = es.toList.map (·.born) := by
          apply List.ext_getElem?
          intro j
          simp only [List.getElem?_map, Array.getElem?_toList, Array.getElem?_modify]
          by_cases hj : i = j
          · subst hj; simp [hi]
          · simp [hj]
        rw [e3]
        exact List.Sublist.refl _

theorem run_delete_kv (L : KeyLaw P kt enc) (hT : P.underlying T = some (.map kt et)) (hm : MapAt w b enc encV kv) (k : K) (ty kT : TypeId) :
    ∃ w', (Builtin.delete_ #[T, kT] ty #[.map (some b), enc k]).run P w = .ok (.tuple #[]) w' ∧ MapPut w b w' ∧ MapAt w' b enc encV (delKV k kv) := by
  obtain ⟨es, ck, hb, hkv, hB⟩ := hm
  have hlt := (Array.getElem?_eq_some_iff.1 hb).1
  have hf := run_findKey (encV := encV) L k es.toList kv hkv w
  have hgo : (getObj b).run P w = .ok (.map es ck) w := by simp [getObj, Sem.run, hb]
  have hset : ∀ o, (setObj b o).run P w = .ok () (w.putObj b o) := fun o => by simp [setObj, Sem.run, hb, World.putObj]
  have hc := L.check es.isEmpty k w
  have hlen : es.toList.length = kv.length := by have := congrArg List.length hkv; simpa using this
  cases hfk : findKV k kv 0 with
  | none =>
    rw [hfk] at hf
    simp only [Option.map_none] at hf
    refine ⟨w.putObj b (.map es ck), ?_, ⟨_, _, _, _, hb, rfl⟩, ?_⟩
    · simp [Builtin.delete_, run_underlying hT, hgo, hc, hf, Result.andThen, hset]
    · refine ⟨_, _, World.putObj_heap_same hlt, ?_, hB⟩
      cases kv with
      | nil => exact hkv
      | cons p l => rw [(findKV_none k p.2 (p :: l) 0 hfk).2]; exact hkv
  | some p =>
    obtain ⟨i, v⟩ := p
    rw [hfk] at hf
    simp only [Option.map_some] at hf
    obtain ⟨h1, h2, _, _, h5⟩ := findKV_put k v kv 0 i v hfk
    simp only [Nat.sub_zero] at h2 h5
    refine ⟨w.putObj b (.map (es.eraseIdxIfInBounds i) ck), ?_, ⟨_, _, _, _, hb, rfl⟩, ?_⟩
    · simp [Builtin.delete_, run_underlying hT, hgo, hc, hf, Result.andThen, hset]
    · have hi : i < es.size := by rw [← Array.length_toList, hlen]; exact h2
      have he : (es.eraseIdxIfInBounds i).toList = es.toList.eraseIdx i := by
        unfold Array.eraseIdxIfInBounds
        rw [dif_pos hi]; simp
      refine ⟨_, _, World.putObj_heap_same hlt, ?_, bornOk_of_borns hB ?_⟩
      · rw [h5, he, map_erase, hkv, map_erase]
      · rw [he]
        exact ((List.eraseIdx_sublist _ _).map _)

omit [DecidableEq K] in
theorem run_len_kv (hT : P.underlying T = some (.map kt et)) (hm : MapAt w b enc encV kv) (ty : TypeId) :
    (Builtin.len_ #[T] ty #[.map (some b)]).run P w = .ok (.int .i64 kv.length) w := by
  obtain ⟨es, ck, hb, hkv, hB⟩ := hm
  have hgo : (getObj b).run P w = .ok (.map es ck) w := by simp [getObj, Sem.run, hb]
  have hlen : es.toList.length = kv.length := by have := congrArg List.length hkv; simpa using this
  have hl : es.size = kv.length := by simpa using hlen
  simp [Builtin.len_, run_underlying hT, hgo, Result.andThen, hl, goInt]
end

theorem eq_st (a b c d : Int) (w : World) : (Op.equal 29 (.agg #[.int .i64 a, .int .i64 b]) (.agg #[.int .i64 c, .int .i64 d])).run Try.prog w = .ok (a == c && b == d) w := by
  show (Op.equalIn (9999 + 1) 29 _ _).run Try.prog w = _
  have hu := Try.underlying2
  have hv := Try.underlying3
  go_simp
  by_cases h1 : a = c <;> by_cases h2 : b = d <;> simp [h1, h2]

theorem keySt : KeyLaw Try.prog 29 St.v where
  check e a w := by kernel_rfl
  eq a b w := by
    unfold St.v
    rw [eq_st]
    congr 1
    cases a with
    | mk a1 a2 =>
      cases b with
      | mk b1 b2 =>
        rw [Bool.eq_iff_iff]
        simp
  desc := ⟨_, Try.underlying29, fun _ _ => rfl⟩
  bits a := by simp [St.v, Instr.sameBits]

/-- a name in a directory -/
structure Pl where
  at_ : St
  name : ByteArray
  deriving DecidableEq, Inhabited
def Pl.v (p : Pl) : Value := .agg #[.int .i64 p.at_.t, .int .i64 p.at_.r, .string p.name]

theorem eq_pl (a b c d : Int) (s t : ByteArray) (w : World) : (Op.equal 102 (.agg #[.int .i64 a, .int .i64 b, .string s]) (.agg #[.int .i64 c, .int .i64 d, .string t])).run Try.prog w = .ok ((a == c && b == d) && s.toList == t.toList) w := by
  show (Op.equalIn (9999 + 1) 102 _ _).run Try.prog w = _
  have hu := Try.underlying2
  have hv := Try.underlying3
  have hs := Try.underlying9
  go_simp
  by_cases h1 : a = c <;> by_cases h2 : b = d <;> by_cases h3 : s.toList = t.toList <;> simp [h1, h2, h3]

theorem toList_inj (s t : ByteArray) : (s.toList == t.toList) = decide (s = t) := by
  rw [Bool.eq_iff_iff]
  simp only [beq_iff_eq, decide_eq_true_eq, ByteArray.toList_eq]
  constructor
  · intro h; apply ByteArray.ext; apply Array.ext'; exact h
  · intro h; rw [h]

theorem keyPl : KeyLaw Try.prog 102 Pl.v where
  check e a w := by kernel_rfl
  eq a b w := by
    unfold Pl.v
    rw [eq_pl, toList_inj]
    congr 1
    cases a with
    | mk a1 a2 =>
      cases b with
      | mk b1 b2 =>
        cases a1; cases b1
        rw [Bool.eq_iff_iff]
        simp
  desc := ⟨_, Try.underlying102, fun _ _ => rfl⟩
  bits a := by simp [Pl.v, Instr.sameBits, beq_toListBytes]
end Go.Proofs.Ytmnkaohhjhjciaa
