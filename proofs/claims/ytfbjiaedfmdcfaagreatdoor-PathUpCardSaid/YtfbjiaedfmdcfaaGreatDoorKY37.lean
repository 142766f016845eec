/-
  apply.why, apply.Why: which questions are asked, and their answer; condition: the graph is in order. · The contracts of package extent (Write, Trunc, Read, sized) ; condition: the lengths that any Go value has. · apply's deeds: gone, rename; condition: the graph is in order.
-/
import Derived.Test.YtfbjiaedfmdcfaaGreatDoorKY36
import Derived.Test.YtfbjiaedfmdcfaaGreatDoorKY13
import Derived.Test.YtfbjiaedfmdcfaaGreatDoorKY2
import Derived.WalkKit
import Derived.WalkSpells
import Derived.WalkLawsBesides
import Derived.Laws.CopyOwn
import Derived.Lib.Hide
import Derived.Lib.MinMax
import Derived.Test.YtfbjiaedfmdcfaaGreatDoorKY35
import Derived.Test.YtfbjiaedfmdcfaaGreatDoorKY31
/-! ## ApD -/
namespace Go.Proofs.YtfbjiaedfmdcfaaGreatDoor
open Go.RowKit Go.Shelf Go.Proofs

def intE (i : Int) : Value := .int .i64 i
def fnV (n : Nat) : Value := .func (.func n) #[] #[]
/-- what is asked of a key type that is compared at once -/
structure KeyFind {K : Type} [DecidableEq K] (P : Program) (kt : TypeId) (enc : K → Value) : Prop where
  check : ∀ e a w, (Instr.checkKey e 10000 kt (enc a)).run P w = .ok () w
  find : ∀ {V : Type} (encV : V → Value) (k : K) (es : List MapEntry) (kv : List (K × V)), es.map (fun e => (e.key, e.val)) = kv.map (fun p => (enc p.1, encV p.2)) → ∀ w : World,
    (Instr.findKey kt (enc k) es).run P w = .ok ((findKV k kv 0).map fun p => (p.1, encV p.2)) w
  bits : ∀ a, Instr.sameBits 10000 (enc a) (enc a) = true
theorem findNow_int {V : Type} (encV : V → Value) (k : Int) : ∀ (es : List MapEntry) (kv : List (Int × V)) (i : Nat), es.map (fun e => (e.key, e.val)) = kv.map (fun p => (intE p.1, encV p.2)) →
    Instr.findNow (.int .i64) (intE k) es i = some ((findKV k kv i).map fun p => (p.1, encV p.2))
  | [], [], _, _ => rfl
  | [], _ :: _, _, h => by simp at h
  | _ :: _, [], _, h => by simp at h
  | e :: es, (a, v) :: kv, i, h => by
    simp only [List.map_cons, List.cons.injEq, Prod.mk.injEq] at h
    obtain ⟨⟨h1, h2⟩, h3⟩ := h
    unfold Instr.findNow findKV
    rw [h1]
    unfold intE Instr.sameNow
    simp only [if_true]
    by_cases hk : k = a
    · subst hk; simp [h2]
    · have : (k == a) = false := beq_eq_false_iff_ne.2 hk
      rw [this, if_neg hk]
      exact findNow_int encV k es kv (i + 1) h3
theorem keyInt : KeyFind Tryz.prog 3 intE where
  check e a w := by kernel_rfl
  find encV k es kv h w := by
    have hn := findNow_int encV k es kv 0 h
    simp only [Instr.findKey, Sem.run_bind, run_underlying Tryz.underlying3, Result.andThen, hn]
    rfl
  bits a := by simp [intE, Instr.sameBits]
section
variable {K V : Type} [DecidableEq K] {P : Program} {kt et T : TypeId} {enc : K → Value} {encV : V → Value} {kv : List (K × V)} {w : World} {b : Nat}
theorem run_lookup_kf (L : KeyFind P kt enc) (hT : P.underlying T = some (.map kt et)) {z : Value} (hz : ∀ w, (zeroValue et).run P w = .ok z w) (hm : MapAt w b enc encV kv) (k : K) :
    (Instr.lookup T (.map (some b)) (enc k) true).run P w = .ok (.tuple #[lookV encV z (getKV k kv), .bool (getKV k kv).isSome]) w ∧
    (Instr.lookup T (.map (some b)) (enc k) false).run P w = .ok (lookV encV z (getKV k kv)) w := by
  obtain ⟨es, ck, hb, hkv, _⟩ := hm
  have hf := L.find encV k es.toList kv hkv w
  have hg := findKV_get k kv 0
  have hgo : (getObj b).run P w = .ok (.map es ck) w := by simp [getObj, Sem.run, hb]
  have hc := L.check es.isEmpty k w
  cases hfk : findKV k kv 0 with
  | none =>
    rw [hfk] at hf hg
    simp only [Option.map_none] at hf hg
    rw [← hg]
    constructor <;> simp [Instr.lookup, run_underlying hT, hgo, hc, hf, hz w, lookV, Result.andThen]
  | some p =>
    obtain ⟨i, v⟩ := p
    rw [hfk] at hf hg
    simp only [Option.map_some] at hf hg
    rw [← hg]
    constructor <;> simp [Instr.lookup, run_underlying hT, hgo, hc, hf, lookV, Result.andThen]

theorem run_update_kf (L : KeyFind P kt enc) (hT : P.underlying T = some (.map kt et)) (hm : MapAt w b enc encV kv) (k : K) (x : V) :
    ∃ w', (Instr.mapUpdate T (.map (some b)) (enc k) (encV x)).run P w = .ok () w' ∧ MapPut w b w' ∧ MapAt w' b enc encV (putKV k x kv) := by
  obtain ⟨es, ck, hb, hkv, hB⟩ := hm
  have hlt := (Array.getElem?_eq_some_iff.1 hb).1
  have hf := L.find encV k es.toList kv hkv w
  have hgo : (getObj b).run P w = .ok (.map es ck) w := by simp [getObj, Sem.run, hb]
  have hset : ∀ o, (setObj b o).run P w = .ok () (w.putObj b o) := fun o => by simp [setObj, Sem.run, hb, World.putObj]
  have hc := L.check false k w
  have hlen : es.toList.length = kv.length := by have := congrArg List.length hkv; simpa using this
  cases hfk : findKV k kv 0 with
  | none =>
    rw [hfk] at hf
    simp only [Option.map_none] at hf
    refine ⟨w.putObj b (.map (es.push { key := enc k, val := encV x, born := ck }) (ck + 1)), ?_, ⟨_, _, _, _, hb, rfl⟩, ?_⟩
    · simp [Instr.mapUpdate, run_underlying hT, hgo, hc, hf, Result.andThen, hset]
    · refine ⟨_, _, World.putObj_heap_same hlt, ?_, bornOk_push hB _ rfl⟩
      rw [(findKV_none k x kv 0 hfk).1]
      simp [hkv]
  | some p =>
    obtain ⟨i, v⟩ := p
    rw [hfk] at hf
    simp only [Option.map_some] at hf
    obtain ⟨h1, h2, h3, h4, _⟩ := findKV_put k x kv 0 i v hfk
    simp only [Nat.sub_zero] at h2 h3 h4
    have hi : i < es.size := by rw [← Array.length_toList, hlen]; exact h2
    have hki : es[i].key = enc k := by
      have e1 : (es.toList.map (fun e => (e.key, e.val)))[i]? = some (es[i].key, es[i].val) := by simp [hi]
      rw [hkv, List.getElem?_map] at e1
      rw [List.getElem?_eq_getElem h2] at e1 h4
      simp at e1 h4
      rw [← e1.1, h4]
    have hkts : (Instr.keyThatStays (enc k) (enc k)).run P w = .ok (enc k) w := by simp [Instr.keyThatStays, L.bits]
    refine ⟨w.putObj b (.map (es.modify i fun e => { e with key := enc k, val := encV x }) ck), ?_, ⟨_, _, _, _, hb, rfl⟩, ?_⟩
    · have e2 : (Option.map (fun x => x.key) es[i]?).getD (enc k) = enc k := by simp [hi, hki]
      simp [Instr.mapUpdate, run_underlying hT, hgo, hc, hf, Result.andThen, hki, hi, hkts, hset]
    · refine ⟨_, _, World.putObj_heap_same hlt, ?_, bornOk_of_borns hB ?_⟩
      · rw [h3, List.map_set, ← hkv]
        apply List.ext_getElem?
        intro j
        simp only [List.getElem?_map, Array.getElem?_toList, Array.getElem?_modify, List.getElem?_set, List.length_map, Array.length_toList]
        by_cases hj : i = j
        · subst hj; simp [hi]
        · simp [hj]
      · have e3 : (es.modify i fun e => { e with key := enc k, val := encV x }).toList.map (·.born) = es.toList.map (·.born) := by
          apply List.ext_getElem?
          intro j
          simp only [List.getElem?_map, Array.getElem?_toList, Array.getElem?_modify]
          by_cases hj : i = j
          · subst hj; simp [hi]
          · simp [hj]
        rw [e3]
        exact List.Sublist.refl _

end

def fnOf (k : Int) : Nat := if k = 1 ∨ k = 2 ∨ k = 3 then 132 else if k = 4 then 133 else if k = 5 then 134 else if k = 6 then 135 else if k = 7 then 136 else if k = 8 ∨ k = 9 then 137 else 138

set_option maxRecDepth 100000 in
set_option maxHeartbeats 2000000 in
theorem whyFn_any (k : Int) (w : World) (h1 : 1 ≤ k) (h2 : k ≤ 10) :
    Calls Tryz.prog 97 #[.int .i64 k] w fun x w' => x = .returned (fnV (fnOf k)) ∧ Below w.heap.size w w' := by
  have hmm := @run_makeMap Tryz.prog
  have hz : ∀ w, (zeroValue 147).run Tryz.prog w = .ok .nilFunc w := fun w => by kernel_rfl
  have hu := Tryz.underlying185
  have hm0 : MapAt (w.alloc (.map #[] 0)) w.heap.size intE fnV [] := mapAt_new w intE fnV
  obtain ⟨w1, r1, p1, m1⟩ := run_update_kf keyInt hu hm0 (1 : Int) 132
  obtain ⟨w2, r2, p2, m2⟩ := run_update_kf keyInt hu m1 (2 : Int) 132
  obtain ⟨w3, r3, p3, m3⟩ := run_update_kf keyInt hu m2 (3 : Int) 132
  obtain ⟨w4, r4, p4, m4⟩ := run_update_kf keyInt hu m3 (4 : Int) 133
  obtain ⟨w5, r5, p5, m5⟩ := run_update_kf keyInt hu m4 (5 : Int) 134
  obtain ⟨w6, r6, p6, m6⟩ := run_update_kf keyInt hu m5 (6 : Int) 135
  obtain ⟨w7, r7, p7, m7⟩ := run_update_kf keyInt hu m6 (7 : Int) 136
  obtain ⟨w8, r8, p8, m8⟩ := run_update_kf keyInt hu m7 (8 : Int) 137
  obtain ⟨w9, r9, p9, m9⟩ := run_update_kf keyInt hu m8 (9 : Int) 137
  obtain ⟨w10, r10, p10, m10⟩ := run_update_kf keyInt hu m9 (10 : Int) 138
  have hl := (run_lookup_kf keyInt hu hz m10 k).1
  have hg : getKV k (putKV 10 138 (putKV 9 137 (putKV 8 137 (putKV 7 136 (putKV 6 135 (putKV 5 134 (putKV 4 133 (putKV 3 132 (putKV 2 132 (putKV (1 : Int) 132 [])))))))))) = some (fnOf k) := by
    have hc : k = 1 ∨ k = 2 ∨ k = 3 ∨ k = 4 ∨ k = 5 ∨ k = 6 ∨ k = 7 ∨ k = 8 ∨ k = 9 ∨ k = 10 := by omega
    rcases hc with rfl | rfl | rfl | rfl | rfl | rfl | rfl | rfl | rfl | rfl <;> decide
  rw [hg] at hl
  have HB : Hid (Below w.heap.size w w10) := Lib.hid (by
    have b0 : New w (w.alloc (.map #[] 0)) := New.alloc' w _
    have le := Nat.le_refl w.heap.size
    exact (p10.new (p9.new (p8.new (p7.new (p6.new (p5.new (p4.new (p3.new (p2.new (p1.new b0 le) le) le) le) le) le) le) le) le) le).below)
  unfold intE fnV at r1 r2 r3 r4 r5 r6 r7 r8 r9 r10
  unfold intE lookV fnV at hl
  simp only [Option.isSome_some] at hl
  unfold fnV
  generalize fnOf k = f at hl ⊢
  clear hg hm0 m1 m2 m3 m4 m5 m6 m7 m8 m9 m10 p1 p2 p3 p4 p5 p6 p7 p8 p9 p10 hz hu h1 h2
  go_enter Tryz.func97, Tryz.ntmps97
  go_wp2
  go_ret
  exact ⟨rfl, HB.out⟩
end Go.Proofs.YtfbjiaedfmdcfaaGreatDoor

/-! ## Ext -/
namespace Go.Proofs.YtfbjiaedfmdcfaaGreatDoor
open Go.RowKit

def bytesV (l : List UInt8) : List Value := l.map fun b => .int .u8 b.toNat
def IsBytes (w : World) (b : Nat) (l : List UInt8) : Prop := w.heap[b]? = some (.cells (bytesV l).toArray 5 (0, 0))

theorem bytesV_oneCell (l : List UInt8) : ∀ v ∈ bytesV l, v.oneCell' = true := by
  intro v hv; simp [bytesV] at hv; obtain ⟨b, _, rfl⟩ := hv; rfl

theorem run_copy_str {P : Program} (w : World) (dT sT ty elem : TypeId) (g o dLen dCap : Nat) (cur : List Value) (t : TypeId) (s : ByteArray) (n : Nat)
    (hu : P.underlying dT = some (.slice elem)) (hs : (P.info? elem).map (·.size) = some 1)
    (hg : w.heap[g]? = some (.cells cur.toArray t (0, 0))) (hn : n = Nat.min s.size dLen) (hfit : o + n ≤ cur.length) :
    (Builtin.copy_ #[dT, sT] ty #[.slice (some ⟨g, o, none⟩) dLen dCap, .string s]).run P w =
      .ok (goInt n) (w.setRow g (splice cur o (bytesV (s.data.toList.take n))).toArray) := by
  have hle : n ≤ s.size := by rw [hn]; exact Nat.min_le_left _ _
  have hle' : n ≤ s.data.toList.length := by simpa using hle
  have hlen : (bytesV (s.data.toList.take n)).length = n := by simp [bytesV]; omega
  have hst := run_storeCells_at P g o t (bytesV (s.data.toList.take n)) 0 cur.toArray w hg (by rw [hlen]; simpa using hfit) (bytesV_oneCell _)
  have hex : List.take n (List.map (fun b => Value.int IntKind.u8 ↑b.toNat) s.data.toList) = bytesV (s.data.toList.take n) := by
    simp [bytesV, List.map_take]
  cases hq : P.info? elem with
  | none => simp [hq] at hs
  | some i =>
    simp [Builtin.copy_, run_underlying hu, Builtin.lenOf, Builtin.firstCells, sizeOf, typeInfo, hq, ← hn]
    simp only [hex, hst, Result.andThen_ok]
    simp [splice, hlen]

/-- copy of a string onto a row of bytes, at the walk's call -/
theorem wpList_copy_str {P : Program} {w : World} {ops : Array Oper} {rest : List Oper} {o : Oper} {a : Act} {Q : Exit → Act → World → Prop} (hgd : o.guard = none) (d s : Operand) (dT sT : TypeId)
    (ho : o.op = .call { callee := .builtin .copy, args := #[d, s], argTypes := #[dT, sT] }) (elem : TypeId) (hu : P.underlying dT = some (.slice elem)) (hsz : (P.info? elem).map (·.size) = some 1)
    (g off dLen dCap : Nat) (str : ByteArray) (hd : a.eval d = .slice (some ⟨g, off, none⟩) dLen dCap) (hs : a.eval s = .string str)
    (cur : List Value) (t : TypeId) (hg : w.heap[g]? = some (.cells cur.toArray t (0, 0))) (n : Nat) (hn : n = Nat.min str.size dLen)
    (hfit : off + n ≤ cur.length) (B : Nat) (w0 : World) (hb : Below B w0 w) (hBg : B ≤ g)
    (h : ∀ w', Hid (w'.heap[g]? = some (.cells (splice cur off (bytesV (str.data.toList.take n))).toArray t (0, 0))) → Below B w0 w' → wpList P ops Q rest (a.put o.dst (goInt n)) w') :
    wpList P ops Q (o :: rest) a w := by
  refine wpList_plain hgd fun K hK => ?_
  have hrun := run_copy_str (P := P) w dT sT o.type elem g off dLen dCap cur t str n hu hsz hg hn hfit
  unfold Oper.wp
  simp [execOp, ho, resolve, invoke, builtin, hd, hs, hrun, Result.andThen]
  exact hK _ _ (h _ (show _ = _ from setRow_heap w g _ _ t _ hg) (below_setRow hb hBg _))

theorem splice_fit (l m : List UInt8) (off : Nat) : splice (bytesV l) off (bytesV m) = bytesV (splice l off m) := by
  simp [splice, bytesV, List.map_take, List.map_drop]

theorem madeCells_bytes (n : Nat) : madeCells (Value.cells (.int .u8 0)) n = (bytesV (List.replicate n 0)).toArray := by
  apply Array.ext
  · simp [size_madeCells, bytesV]
  · intro i h1 h2
    simp [madeCells, bytesV, Value.cells, Nat.mod_one]

theorem IsBytes.convert {w : World} {b : Nat} {l : List UInt8} (h : IsBytes w b l) (n cap : Nat) (hn : l.length = n) :
    (convert 90 9 (.slice (some ⟨b, 0, none⟩) n cap)).run Tryz.prog w = .ok (.string ⟨l.toArray⟩) w := by
  subst hn
  refine run_convert_bytes_back w 90 9 5 _ cap l Tryz.underlying90 Tryz.underlying5 Tryz.underlying9 fun j hj => ?_
  have hadd : (⟨b, 0, none⟩ : Addr).add j = ⟨b, j, none⟩ := by unfold Addr.add; split <;> simp_all
  rw [hadd, cell_of_row w b j _ _ _ h]
  simp [bytesV, hj]

theorem bytes_info : (Tryz.prog.info? 5).map (·.size) = some 1 := by kernel_rfl
theorem infoByte : (Tryz.prog.info? 5).map (fun i => (i.zero, i.size, i.bytes)) = some (some (.int .u8 0), 1, 1) := by kernel_rfl

theorem fit_splice (l : List UInt8) (n : Nat) : splice (List.replicate n 0) 0 (l.take (Nat.min l.length n)) = fit l n := by
  have e : Nat.min l.length n = min l.length n := rfl
  simp only [splice, fit, List.take_zero, List.nil_append, e, List.length_take]
  congr 1
  · by_cases h : l.length ≤ n
    · rw [Nat.min_eq_left h, List.take_length, List.take_of_length_le h]
    · rw [Nat.min_eq_right (by omega)]
  · simp; omega

theorem fit_splice' (s : ByteArray) (n : Nat) : splice (bytesV (List.replicate n 0)) 0 (bytesV (s.data.toList.take (Nat.min s.size n))) = bytesV (fit s.data.toList n) := by
  rw [splice_fit]; congr 1; rw [← fit_splice]; simp

set_option maxHeartbeats 400000 in
theorem sized_any (s : ByteArray) (n : Nat) (w : World) (h1 : n ≤ 64) :
    Calls Tryz.prog 157 #[.string s, .int .i64 n] w fun e w' => e = .returned (.slice (some ⟨w.heap.size, 0, none⟩) n n) ∧ IsBytes w' w.heap.size (fit s.data.toList n) ∧ Below w.heap.size w w' := by
  obtain ⟨i0, hi, hz0, hz1, hz2⟩ := info_parts infoByte
  have hmk := run_make (P := Tryz.prog) w 90 5 i0 (.int .u8 0) Tryz.underlying90 hi hz0 .i64 .i64 n n (by omega) (by omega) (by rw [hz2]; omega) (by omega)
  rw [hz1, Nat.mul_one, Int.toNat_natCast, madeCells_bytes] at hmk
  clear hi hz0 hz1 hz2
  go_enter Tryz.func157, Tryz.ntmps157
  go_wp2_with (refine wpList_copy_str rfl _ _ 90 9 rfl 5 Tryz.underlying90 bytes_info w.heap.size 0 n n s rfl rfl (bytesV (List.replicate n 0)) 5 ?c1 (Nat.min s.size n) rfl ?c2 w.heap.size w ?c3 (Nat.le_refl _) ?_; (case c1 => exact heap_alloc_new _ _); (case c2 => simp [bytesV]; exact Nat.min_le_right _ _); (case c3 => exact (Below.refl _ _).alloc (Nat.le_refl _) _); intro w2 hg2 hb2)
  go_ret
  refine ⟨rfl, ?_, hb2⟩
  have h := hg2.out
  rw [fit_splice'] at h
  exact h

set_option maxHeartbeats 400000 in
theorem read_any (d : ByteArray) (off many : Int) (w : World) (hd : d.size ≤ maxLen) (hm : many ≤ 9223372036854775807) :
    Calls Tryz.prog 98 #[.string d, .int .i64 off, .int .i64 many] w fun e w' => e = .returned (.string (readF d off many)) ∧ w = w' := by
  unfold maxLen at hd
  by_cases h1 : off < 0
  · have hr : readF d off many = ⟨#[]⟩ := by simp [readF, h1]
    rw [hr]; clear hr
    go_enter Tryz.func98, Tryz.ntmps98
    go_wp2
    go_ret
    exact ⟨rfl, rfl⟩
  by_cases h2 : many < 1
  · have hr : readF d off many = ⟨#[]⟩ := by simp [readF, h2]
    rw [hr]; clear hr
    go_enter Tryz.func98, Tryz.ntmps98
    go_wp2
    go_ret
    exact ⟨rfl, rfl⟩
  by_cases h3 : (d.size : Int) ≤ off
  · have hr : readF d off many = ⟨#[]⟩ := by simp [readF, h3]
    rw [hr]; clear hr
    go_enter Tryz.func98, Tryz.ntmps98
    go_wp2
    go_ret
    exact ⟨rfl, rfl⟩
  obtain ⟨k, hk⟩ : ∃ k : Nat, (k : Int) = min many (d.size - off) := ⟨(min many (d.size - off)).toNat, by omega⟩
  have hr : readF d off many = d.extract off.toNat (off.toNat + k) := by
    simp only [readF, h1, h2, h3, or_self, ↓reduceIte, ← hk, Int.toNat_natCast]
  rw [hr]; clear hr
  obtain ⟨i, rfl⟩ := Int.eq_ofNat_of_zero_le (Int.not_lt.1 h1)
  have hk1 : k ≤ d.size - i := by omega
  have hik : i + k ≤ d.size := by omega
  have HK := Lib.hid hk
  clear hk
  go_enter Tryz.func98, Tryz.ntmps98
  go_wp2
  go_ret
  refine ⟨?_, rfl⟩
  show Ending.returned (Value.string (d.extract i ((i : Int) + min many ((d.size : Int) - i)).toNat)) = Ending.returned (Value.string (d.extract i (i + k)))
  rw [← HK.out, show ((i : Int) + (k : Int)).toNat = i + k from by omega]
set_option maxHeartbeats 400000 in
theorem trunc_any (d : ByteArray) (n : Int) (w : World) (hd : d.size ≤ maxLen) :
    Calls Tryz.prog 122 #[.string d, .int .i64 n] w fun e w' => e = .returned (.tuple #[.string (truncF d n).1, .int .i64 (truncF d n).2]) ∧ Below w.heap.size w w' := by
  unfold maxLen at hd
  by_cases h1 : n < 0
  · have hr : truncF d n = (d, 1) := by simp [truncF, h1]
    rw [hr]; clear hr
    go_enter Tryz.func122, Tryz.ntmps122
    go_wp2
    go_ret2
    exact ⟨rfl, Below.refl _ _⟩
  by_cases h2 : 64 < n
  · have hr : truncF d n = (d, 11) := by simp [truncF, h1, h2]
    rw [hr]; clear hr
    go_enter Tryz.func122, Tryz.ntmps122
    go_wp2
    go_ret2
    exact ⟨rfl, Below.refl _ _⟩
  by_cases h3 : 64 < d.size
  · have hr : truncF d n = (d, 11) := by simp [truncF, h1, h3]
    rw [hr]; clear hr
    go_enter Tryz.func122, Tryz.ntmps122
    go_wp2
    go_ret2
    exact ⟨rfl, Below.refl _ _⟩
  have hr : truncF d n = (⟨(fit d.data.toList n.toNat).toArray⟩, 0) := by simp [truncF, h1, h2, h3]
  rw [hr]; clear hr
  obtain ⟨i, rfl⟩ := Int.eq_ofNat_of_zero_le (Int.not_lt.1 h1)
  rw [Int.toNat_natCast]
  go_enter Tryz.func122, Tryz.ntmps122
  go_wp2_with (go_at_call 157; refine (sized_any d i _ (by omega)).mono ?_; rintro e w1 ⟨rfl, hb1, hB⟩; have hcv := hb1.convert i i (fit_length _ _); have HI := Lib.hid hb1; clear hb1)
  go_ret2
  exact ⟨rfl, hB⟩

theorem splice_bytes {w : World} {b i : Nat} {l : List UInt8} {s : ByteArray} (h : w.heap[b]? = some (.cells (splice (bytesV l) i (bytesV (s.data.toList.take s.size))).toArray 5 (0, 0))) :
    IsBytes w b (splice l i s.data.toList) := by
  have e : s.data.toList.take s.size = s.data.toList := List.take_of_length_le (by rw [Array.length_toList]; exact Nat.le_refl _)
  rw [e, splice_fit] at h; exact h

set_option maxHeartbeats 400000 in
theorem write_any (d : ByteArray) (off : Int) (s : ByteArray) (w : World) (hd : d.size ≤ maxLen) (hs : s.size ≤ maxLen) :
    Calls Tryz.prog 121 #[.string d, .int .i64 off, .string s] w fun e w' => e = .returned (.tuple #[.string (writeF d off s).1, .int .i64 (writeF d off s).2]) ∧ Below w.heap.size w w' := by
  unfold maxLen at hd hs
  by_cases h1 : off < 0
  · have hr : writeF d off s = (d, 1) := by simp [writeF, h1]
    rw [hr]; clear hr
    go_enter Tryz.func121, Tryz.ntmps121
    go_wp2
    go_ret2
    exact ⟨rfl, Below.refl _ _⟩
  by_cases h2 : s.data.toList = []
  · have hr : writeF d off s = (d, 1) := by simp [writeF, h2]
    rw [hr]; clear hr
    have h2' : s.toList = [] := by rw [ByteArray.toList_eq]; exact h2
    clear h2
    go_enter Tryz.func121, Tryz.ntmps121
    go_wp2
    go_ret2
    exact ⟨rfl, Below.refl _ _⟩
  have h2' : s.toList.isEmpty = false := by simpa [ByteArray.toList_eq] using h2
  by_cases h3 : 64 < off
  · have hr : writeF d off s = (d, 11) := by simp [writeF, h1, h2, h3]
    rw [hr]; clear hr h2
    go_enter Tryz.func121, Tryz.ntmps121
    go_wp2
    go_ret2
    exact ⟨rfl, Below.refl _ _⟩
  by_cases h4 : 64 - off < s.size
  · have hr : writeF d off s = (d, 11) := by simp [writeF, h1, h2, h4]
    rw [hr]; clear hr h2
    go_enter Tryz.func121, Tryz.ntmps121
    go_wp2
    go_ret2
    exact ⟨rfl, Below.refl _ _⟩
  by_cases h5 : 64 < d.size
  · have hr : writeF d off s = (d, 11) := by simp [writeF, h1, h2, h5]
    rw [hr]; clear hr h2
    go_enter Tryz.func121, Tryz.ntmps121
    go_wp2
    go_ret2
    exact ⟨rfl, Below.refl _ _⟩
  have hr : writeF d off s = (⟨(splice (fit d.data.toList (max d.size (off.toNat + s.size))) off.toNat s.data.toList).toArray⟩, 0) := by simp [writeF, h1, h2, h3, h4, h5]
  rw [hr]; clear hr
  have h6 : 0 < s.size := Nat.pos_of_ne_zero (fun h => h2 (List.eq_nil_of_length_eq_zero (by rw [Array.length_toList]; exact h)))
  clear h2
  obtain ⟨i, rfl⟩ := Int.eq_ofNat_of_zero_le (Int.not_lt.1 h1)
  rw [Int.toNat_natCast]
  obtain ⟨m, hm⟩ : ∃ m : Nat, m = max d.size (i + s.size) := ⟨_, rfl⟩
  rw [← hm]
  have hmx : max (d.size : Int) ((i : Int) + s.size) = (m : Int) := by omega
  have hi1 : i + s.size ≤ m := by omega
  have hm64 : m ≤ 64 := by omega
  clear hm
  go_enter Tryz.func121, Tryz.ntmps121
  go_wp2_with (first | (go_at_call 157; refine (sized_any d m _ hm64).mono ?_; rintro e w1 ⟨rfl, hb1, hB⟩; have HI := Lib.hid hb1; clear hb1) | (refine wpList_copy_str rfl _ _ 90 9 rfl 5 Tryz.underlying90 bytes_info w.heap.size i (m - i) (m - i) s rfl rfl (bytesV (fit d.data.toList m)) 5 HI.out s.size ?c2 ?c3 w.heap.size w hB (Nat.le_refl _) ?_; (case c2 => exact (Nat.min_eq_left (by omega)).symm); (case c3 => rw [show (bytesV (fit d.data.toList m)).length = m by simp [bytesV, fit_length]]; omega); intro w2 hg2 hb2; have hcv := (splice_bytes hg2.out).convert m m (by rw [length_splice _ _ _ (by rw [fit_length]; simpa using hi1), fit_length]); clear HI hB))
  go_ret2
  exact ⟨rfl, hb2⟩

end Go.Proofs.YtfbjiaedfmdcfaaGreatDoor

/-! ## ApE -/
namespace Go.Proofs.YtfbjiaedfmdcfaaGreatDoor
open Go.RowKit Go.Shelf Go.Proofs

theorem gone_eq {g : Gr} (_ : g.Ok) (p : Pl) : (if ((g.untie p).got ((g.look p).getD ⟨0, 0⟩)).links = 0 then (g.untie p).drop ((g.look p).getD ⟨0, 0⟩) else g.untie p) = g.gone p := by
  unfold Gr.gone
  cases hl : g.look p with
  | some id => rfl
  | none =>
    have hu : g.untie p = g := by unfold Gr.untie; rw [hl]
    rw [hu]
    simp only [Option.getD_none]
    split
    · unfold Gr.drop
      rw [if_neg]
      unfold Gr.dropWhy
      split
      · decide
      · simp
    · rfl
/-- a job's box, in worlds in which only maps turned -/
theorem jboxT {S : Nat → Prop} {w V W : World} {gb : Nat} {o : Op} (h : (fun W : World => W.cell? ⟨w.heap.size, 0, none⟩ = some (.pointer (some ⟨gb, 0, none⟩)) ∧ W.cell? ⟨w.heap.size, 1, none⟩ = some (.int .i64 o.stamp.t) ∧ W.cell? ⟨w.heap.size, 2, none⟩ = some (.int .i64 o.stamp.r) ∧ W.cell? ⟨w.heap.size, 3, none⟩ = some (.int .i64 o.kind) ∧ W.cell? ⟨w.heap.size, 4, none⟩ = some (.int .i64 o.at_.t) ∧ W.cell? ⟨w.heap.size, 5, none⟩ = some (.int .i64 o.at_.r) ∧ W.cell? ⟨w.heap.size, 6, none⟩ = some (.int .i64 o.ino.t) ∧ W.cell? ⟨w.heap.size, 7, none⟩ = some (.int .i64 o.ino.r) ∧ W.cell? ⟨w.heap.size, 8, none⟩ = some (.int .i64 o.to.t) ∧ W.cell? ⟨w.heap.size, 9, none⟩ = some (.int .i64 o.to.r) ∧ W.cell? ⟨w.heap.size, 10, none⟩ = some (.string o.name) ∧ W.cell? ⟨w.heap.size, 11, none⟩ = some (.string o.new) ∧ W.cell? ⟨w.heap.size, 12, none⟩ = some (.int .i64 o.off) ∧ W.cell? ⟨w.heap.size, 13, none⟩ = some (.string o.data)) V) (hz : w.heap.size < V.heap.size) (hT : Turn S V W) : (fun W : World => W.cell? ⟨w.heap.size, 0, none⟩ = some (.pointer (some ⟨gb, 0, none⟩)) ∧ W.cell? ⟨w.heap.size, 1, none⟩ = some (.int .i64 o.stamp.t) ∧ W.cell? ⟨w.heap.size, 2, none⟩ = some (.int .i64 o.stamp.r) ∧ W.cell? ⟨w.heap.size, 3, none⟩ = some (.int .i64 o.kind) ∧ W.cell? ⟨w.heap.size, 4, none⟩ = some (.int .i64 o.at_.t) ∧ W.cell? ⟨w.heap.size, 5, none⟩ = some (.int .i64 o.at_.r) ∧ W.cell? ⟨w.heap.size, 6, none⟩ = some (.int .i64 o.ino.t) ∧ W.cell? ⟨w.heap.size, 7, none⟩ = some (.int .i64 o.ino.r) ∧ W.cell? ⟨w.heap.size, 8, none⟩ = some (.int .i64 o.to.t) ∧ W.cell? ⟨w.heap.size, 9, none⟩ = some (.int .i64 o.to.r) ∧ W.cell? ⟨w.heap.size, 10, none⟩ = some (.string o.name) ∧ W.cell? ⟨w.heap.size, 11, none⟩ = some (.string o.new) ∧ W.cell? ⟨w.heap.size, 12, none⟩ = some (.int .i64 o.off) ∧ W.cell? ⟨w.heap.size, 13, none⟩ = some (.string o.data)) W ∧ w.heap.size < W.heap.size := by
  have e : ∀ i v, V.cell? ⟨w.heap.size, i, none⟩ = some v → W.cell? ⟨w.heap.size, i, none⟩ = some v := fun i v h => (hT.cell ⟨w.heap.size, i, none⟩ hz).trans h
  obtain ⟨a, b, c, d, e1, f, g, h, i, j, k, l, m, n⟩ := h
  exact ⟨⟨e _ _ a, e _ _ b, e _ _ c, e _ _ d, e _ _ e1, e _ _ f, e _ _ g, e _ _ h, e _ _ i, e _ _ j, e _ _ k, e _ _ l, e _ _ m, e _ _ n⟩, Nat.lt_of_lt_of_le hz hT.size⟩
theorem st_box {w W : World} {x : St} {S : Nat → Prop} (hT : Turn S (w.alloc (.cells #[.int .i64 x.t, .int .i64 x.r] 26)) W) : W.cell? ⟨w.heap.size, 0, none⟩ = some (.int .i64 x.t) ∧ W.cell? ⟨w.heap.size, 1, none⟩ = some (.int .i64 x.r) ∧ w.heap.size < W.heap.size :=
  ⟨(hT.cell ⟨w.heap.size, 0, none⟩ (by simp)).trans (cell_new w _ rfl _ _ 0 _ rfl), (hT.cell ⟨w.heap.size, 1, none⟩ (by simp)).trans (cell_new w _ rfl _ _ 1 _ rfl), by have := hT.size; simp at this; omega⟩

set_option maxRecDepth 100000 in
set_option maxHeartbeats 2000000 in
theorem gone_any (gb mI mE : Nat) (g : Gr) (o : Op) (p : Pl) (w : World) (h : GrAt w gb mI mE g) (hok : g.Ok) :
    Calls Tryz.prog 119 #[(.agg #[.pointer (some ⟨gb, 0, none⟩), .int .i64 o.stamp.t, .int .i64 o.stamp.r, .int .i64 o.kind, .int .i64 o.at_.t, .int .i64 o.at_.r, .int .i64 o.ino.t, .int .i64 o.ino.r, .int .i64 o.to.t, .int .i64 o.to.r, .string o.name, .string o.new, .int .i64 o.off, .string o.data]), (.agg #[.int .i64 p.at_.t, .int .i64 p.at_.r]), .string p.name] w fun e w' => e = .returned (.tuple #[]) ∧ GrAt w' gb mI mE (g.gone p) ∧ Turn (Maps2 mI mE) w w' := by
  have HE := Lib.hid (gone_eq hok p)
  obtain ⟨W0, hW0⟩ : ∃ W0, W0 = (w.alloc (.cells #[.pointer (some ⟨gb, 0, none⟩), .int .i64 o.stamp.t, .int .i64 o.stamp.r, .int .i64 o.kind, .int .i64 o.at_.t, .int .i64 o.at_.r, .int .i64 o.ino.t, .int .i64 o.ino.r, .int .i64 o.to.t, .int .i64 o.to.r, .string o.name, .string o.new, .int .i64 o.off, .string o.data] 129)).alloc (.cells #[.int .i64 p.at_.t, .int .i64 p.at_.r] 26) := ⟨_, rfl⟩
  have hN : New w W0 := by rw [hW0]; exact (New.alloc' w _).alloc _
  have hz : w.heap.size < W0.heap.size := by rw [hW0]; simp only [World.size_alloc]; omega
  have hS0 : (fun W : World => W.cell? ⟨w.heap.size, 0, none⟩ = some (.pointer (some ⟨gb, 0, none⟩)) ∧ W.cell? ⟨w.heap.size, 1, none⟩ = some (.int .i64 o.stamp.t) ∧ W.cell? ⟨w.heap.size, 2, none⟩ = some (.int .i64 o.stamp.r) ∧ W.cell? ⟨w.heap.size, 3, none⟩ = some (.int .i64 o.kind) ∧ W.cell? ⟨w.heap.size, 4, none⟩ = some (.int .i64 o.at_.t) ∧ W.cell? ⟨w.heap.size, 5, none⟩ = some (.int .i64 o.at_.r) ∧ W.cell? ⟨w.heap.size, 6, none⟩ = some (.int .i64 o.ino.t) ∧ W.cell? ⟨w.heap.size, 7, none⟩ = some (.int .i64 o.ino.r) ∧ W.cell? ⟨w.heap.size, 8, none⟩ = some (.int .i64 o.to.t) ∧ W.cell? ⟨w.heap.size, 9, none⟩ = some (.int .i64 o.to.r) ∧ W.cell? ⟨w.heap.size, 10, none⟩ = some (.string o.name) ∧ W.cell? ⟨w.heap.size, 11, none⟩ = some (.string o.new) ∧ W.cell? ⟨w.heap.size, 12, none⟩ = some (.int .i64 o.off) ∧ W.cell? ⟨w.heap.size, 13, none⟩ = some (.string o.data)) W0 := jbox (by rw [hW0]; exact (Below.refl _ _).alloc (Nat.le_refl _) _)
  have hA0 := st_box (w := w.alloc (.cells #[.pointer (some ⟨gb, 0, none⟩), .int .i64 o.stamp.t, .int .i64 o.stamp.r, .int .i64 o.kind, .int .i64 o.at_.t, .int .i64 o.at_.r, .int .i64 o.ino.t, .int .i64 o.ino.r, .int .i64 o.to.t, .int .i64 o.to.r, .string o.name, .string o.new, .int .i64 o.off, .string o.data] 129)) (x := p.at_) (W := W0) (S := Maps2 mI mE) (by rw [hW0]; exact Turn.refl _ _)
  rw [World.size_alloc] at hA0
  have HJ : Hid (∀ W, Turn (Maps2 mI mE) W0 W → (fun W : World => W.cell? ⟨w.heap.size, 0, none⟩ = some (.pointer (some ⟨gb, 0, none⟩)) ∧ W.cell? ⟨w.heap.size, 1, none⟩ = some (.int .i64 o.stamp.t) ∧ W.cell? ⟨w.heap.size, 2, none⟩ = some (.int .i64 o.stamp.r) ∧ W.cell? ⟨w.heap.size, 3, none⟩ = some (.int .i64 o.kind) ∧ W.cell? ⟨w.heap.size, 4, none⟩ = some (.int .i64 o.at_.t) ∧ W.cell? ⟨w.heap.size, 5, none⟩ = some (.int .i64 o.at_.r) ∧ W.cell? ⟨w.heap.size, 6, none⟩ = some (.int .i64 o.ino.t) ∧ W.cell? ⟨w.heap.size, 7, none⟩ = some (.int .i64 o.ino.r) ∧ W.cell? ⟨w.heap.size, 8, none⟩ = some (.int .i64 o.to.t) ∧ W.cell? ⟨w.heap.size, 9, none⟩ = some (.int .i64 o.to.r) ∧ W.cell? ⟨w.heap.size, 10, none⟩ = some (.string o.name) ∧ W.cell? ⟨w.heap.size, 11, none⟩ = some (.string o.new) ∧ W.cell? ⟨w.heap.size, 12, none⟩ = some (.int .i64 o.off) ∧ W.cell? ⟨w.heap.size, 13, none⟩ = some (.string o.data)) W ∧ w.heap.size < W.heap.size) := Lib.hid fun W hW => jboxT hS0 hz hW
  have HTw := Lib.hid (hN.turn (Maps2 mI mE))
  have HU := Lib.hid (untie_g gb mI mE g p W0 (h.new hN) hok)
  have hok1 := hok.untieD p
  have HD := Lib.hid (fun W (hW : GrAt W gb mI mE (g.untie p)) (id : St) => drop_g gb mI mE (g.untie p) id W hW hok1 (by have := hok1.few; omega))
  have HG := Lib.hid (fun W (hW : GrAt W gb mI mE (g.untie p)) (id : St) => get_any gb mI mE (g.untie p) id W hW hok1.sn)
  clear h hok hok1 hN
  generalize (g.look p).getD ⟨0, 0⟩ = id at HU HE
  generalize g.untieWhy p = uw at HU
  generalize g.untie p = g1 at HU HE HD HG
  generalize g.gone p = gr at HE ⊢
  obtain ⟨i, hi⟩ : ∃ i, i = g1.got id := ⟨_, rfl⟩
  rw [← hi] at HE
  have HI := Lib.hid hi
  clear hi
  obtain ⟨pat, pname⟩ := p
  unfold St.v at HU HD
  unfold Ino.v at HG
  by_cases h0 : i.links = 0
  all_goals
    have HE2 := HE.out
    first
      | rw [if_pos h0] at HE2
      | rw [if_neg h0] at HE2
    have HE3 := Lib.hid HE2
    clear HE2
    first
      | (have h0b : (i.links == 0) = true := beq_iff_eq.2 h0)
      | (have h0b : (i.links == 0) = false := beq_eq_false_iff_ne.2 h0)
    clear h0
    obtain ⟨_, _, _⟩ := hA0
    obtain ⟨⟨_, _, _, _, _, _, _, _, _, _, _, _, _, _⟩, _⟩ := HJ.out W0 (Turn.refl _ _)
    go_enter Tryz.func119, Tryz.ntmps119
    go_wp2_with fail
    rw [← hW0]
    have HW0 := Lib.hid hW0
    clear hW0
    go_wp2_with fail
    refine HU.out.mono ?_
    rintro e w1 ⟨rfl, hG1, hT1⟩
    have HG1 : Hid (GrAt (w1.alloc (.cells #[.int .i64 id.t, .int .i64 id.r] 26)) gb mI mE g1) := Lib.hid (hG1.new (New.alloc' _ _))
    have HT1 : Hid (Turn (Maps2 mI mE) W0 (w1.alloc (.cells #[.int .i64 id.t, .int .i64 id.r] 26))) := Lib.hid (hT1.trans ((New.alloc' _ _).turn _))
    obtain ⟨⟨_, _, _, _, _, _, _, _, _, _, _, _, _, _⟩, _⟩ := HJ.out w1 hT1
    clear hG1 hT1
    have hg := HG.out _ HG1.out id
    rw [← HI.out] at hg
    unfold St.v at hg
    generalize (g1.get id).isSome = b at hg
    have HGG := Lib.hid hg
    clear hg
    go_wp2_with fail
    refine HGG.out.mono ?_
    rintro e w2 ⟨rfl, hN2⟩
    have HT2 : Hid (Turn (Maps2 mI mE) W0 (w2.alloc (.cells #[.int .i64 i.id.t, .int .i64 i.id.r, .int .i64 i.kind, .int .i64 i.links, .int .i64 i.mode, .string i.data] 28))) := Lib.hid ((HT1.out.trans (hN2.turn _)).trans ((New.alloc' _ _).turn _))
    have HG2 : Hid (GrAt (w2.alloc (.cells #[.int .i64 i.id.t, .int .i64 i.id.r, .int .i64 i.kind, .int .i64 i.links, .int .i64 i.mode, .string i.data] 28)) gb mI mE g1) := Lib.hid ((HG1.out.new hN2).new (New.alloc' _ _))
    have HDD := Lib.hid (HD.out _ HG2.out id)
    obtain ⟨⟨_, _, _, _, _, _, _, _, _, _, _, _, _, _⟩, _⟩ := HJ.out w2 (HT1.out.trans (hN2.turn _))
    obtain ⟨_, _, _⟩ := st_box (S := Maps2 mI mE) (hN2.turn _)
    clear hN2
    go_wp2_with (go_at_call 156; refine HDD.out.mono ?_; rintro e w3 ⟨rfl, hG3, hT3⟩; have HG3 := Lib.hid hG3; have HT3 := Lib.hid (HT2.out.trans hT3); clear hG3 hT3)
    go_end0
    first
      | exact ⟨rfl, by rw [← HE3.out]; exact HG3.out, HTw.out.trans HT3.out⟩
      | exact ⟨rfl, by rw [← HE3.out]; exact HG2.out, HTw.out.trans HT2.out⟩
end Go.Proofs.YtfbjiaedfmdcfaaGreatDoor
