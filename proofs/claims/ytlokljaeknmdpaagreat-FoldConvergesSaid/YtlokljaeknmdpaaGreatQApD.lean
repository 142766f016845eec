/-
  apply.why, apply.Why: which questions are asked, and their answer; condition: the graph is in order.
-/
import Derived.Test.YtlokljaeknmdpaaGreatQApC
import Derived.Test.YtlokljaeknmdpaaGreatQAudG
namespace Go.Proofs.YtlokljaeknmdpaaGreat
open Go.RowKit Go.Shelf Go.Proofs

def intE (i : Int) : Value := .int .i64 i
def fnV (n : Nat) : Value := .func (.func n) #[] #[]
/-- what is asked of a key type that is compared at once -/
structure KeyFind {K : Type} [DecidableEq K] (P : Program) (kt : TypeId) (enc : K → Value) : Prop where
  check : ∀ e a w, (Instr.checkKey e 10000 kt (enc a)).run P w = .ok () w
  find : ∀ {V : Type} (encV : V → Value) (k : K) (es : List MapEntry) (kv : List (K × V)), es.map (fun e => (e.key, e.val)) = kv.map (fun p => (enc p.1, encV p.2)) → ∀ w : World,
    (Instr.findKey kt (enc k) es).run P w = .ok ((findKV k kv 0).map fun p => (p.1, encV p.2)) w
  bits : ∀ a, Instr.sameBits 10000 (enc a) (enc a) = true
theorem findNow_int {V : Type} (encV : V → Value) (k : Int) : ∀ (es : List MapEntry) (kv : List (Int × V)) (i : Nat), es.map (fun e => (e.key, e.val)) = kv.map (fun p => (intE p.1, encV p.2)) →
    Instr.findNow (.int .i64) (intE k) es i = some ((findKV k kv i).map fun p => (p.1, encV p.2))
  | [], [], _, _ => rfl
  | [], _ :: _, _, h => by simp at h
  | _ :: _, [], _, h => by simp at h
  | e :: es, (a, v) :: kv, i, h => by
    simp only [List.map_cons, List.cons.injEq, Prod.mk.injEq] at h
    obtain ⟨⟨h1, h2⟩, h3⟩ := h
    unfold Instr.findNow findKV
    rw [h1]
    unfold intE Instr.sameNow
    simp only [if_true]
    by_cases hk : k = a
    · subst hk; simp [h2]
    · have : (k == a) = false := beq_eq_false_iff_ne.2 hk
      rw [this, if_neg hk]
      exact findNow_int encV k es kv (i + 1) h3
theorem keyInt : KeyFind Tryz.prog 3 intE where
  check e a w := by kernel_rfl
  find encV k es kv h w := by
    have hn := findNow_int encV k es kv 0 h
    simp only [Instr.findKey, Sem.run_bind, run_underlying Tryz.underlying3, Result.andThen, hn]
    rfl
  bits a := by simp [intE, Instr.sameBits]
section
variable {K V : Type} [DecidableEq K] {P : Program} {kt et T : TypeId} {enc : K → Value} {encV : V → Value} {kv : List (K × V)} {w : World} {b : Nat}
theorem run_lookup_kf (L : KeyFind P kt enc) (hT : P.underlying T = some (.map kt et)) {z : Value} (hz : ∀ w, (zeroValue et).run P w = .ok z w) (hm : MapAt w b enc encV kv) (k : K) :
    (Instr.lookup T (.map (some b)) (enc k) true).run P w = .ok (.tuple #[lookV encV z (getKV k kv), .bool (getKV k kv).isSome]) w ∧
    (Instr.lookup T (.map (some b)) (enc k) false).run P w = .ok (lookV encV z (getKV k kv)) w := by
  obtain ⟨es, ck, hb, hkv, _⟩ := hm
  have hf := L.find encV k es.toList kv hkv w
  have hg := findKV_get k kv 0
  have hgo : (getObj b).run P w = .ok (.map es ck) w := by simp [getObj, Sem.run, hb]
  have hc := L.check es.isEmpty k w
  cases hfk : findKV k kv 0 with
  | none =>
    rw [hfk] at hf hg
    simp only [Option.map_none] at hf hg
    rw [← hg]
    constructor <;> simp [Instr.lookup, run_underlying hT, hgo, hc, hf, hz w, lookV, Result.andThen]
  | some p =>
    obtain ⟨i, v⟩ := p
    rw [hfk] at hf hg
    simp only [Option.map_some] at hf hg
    rw [← hg]
    constructor <;> simp [Instr.lookup, run_underlying hT, hgo, hc, hf, lookV, Result.andThen]

theorem run_update_kf (L : KeyFind P kt enc) (hT : P.underlying T = some (.map kt et)) (hm : MapAt w b enc encV kv) (k : K) (x : V) :
    ∃ w', (Instr.mapUpdate T (.map (some b)) (enc k) (encV x)).run P w = .ok () w' ∧ MapPut w b w' ∧ MapAt w' b enc encV (putKV k x kv) := by
  obtain ⟨es, ck, hb, hkv, hB⟩ := hm
  have hlt := (Array.getElem?_eq_some_iff.1 hb).1
  have hf := L.find encV k es.toList kv hkv w
  have hgo : (getObj b).run P w = .ok (.map es ck) w := by simp [getObj, Sem.run, hb]
  have hset : ∀ o, (setObj b o).run P w = .ok () (w.putObj b o) := fun o => by simp [setObj, Sem.run, hb, World.putObj]
  have hc := L.check false k w
  have hlen : es.toList.length = kv.length := by have := congrArg List.length hkv; simpa using this
  cases hfk : findKV k kv 0 with
  | none =>
    rw [hfk] at hf
    simp only [Option.map_none] at hf
    refine ⟨w.putObj b (.map (es.push { key := enc k, val := encV x, born := ck }) (ck + 1)), ?_, ⟨_, _, _, _, hb, rfl⟩, ?_⟩
    · simp [Instr.mapUpdate, run_underlying hT, hgo, hc, hf, Result.andThen, hset]
    · refine ⟨_, _, World.putObj_heap_same hlt, ?_, bornOk_push hB _ rfl⟩
      rw [(findKV_none k x kv 0 hfk).1]
      simp [hkv]
  | some p =>
    obtain ⟨i, v⟩ := p
    rw [hfk] at hf
    simp only [Option.map_some] at hf
    obtain ⟨h1, h2, h3, h4, _⟩ := findKV_put k x kv 0 i v hfk
    simp only [Nat.sub_zero] at h2 h3 h4
    have hi : i < es.size := by rw [← Array.length_toList, hlen]; exact h2
    have hki : es[i].key = enc k := by
      have e1 : (es.toList.map (fun e => (e.key, e.val)))[i]? = some (es[i].key, es[i].val) := by simp [hi]
      rw [hkv, List.getElem?_map] at e1
      rw [List.getElem?_eq_getElem h2] at e1 h4
      simp at e1 h4
      rw [← e1.1, h4]
    have hkts : (Instr.keyThatStays (enc k) (enc k)).run P w = .ok (enc k) w := by simp [Instr.keyThatStays, L.bits]
    refine ⟨w.putObj b (.map (es.modify i fun e => { e with key := enc k, val := encV x }) ck), ?_, ⟨_, _, _, _, hb, rfl⟩, ?_⟩
    · have e2 : (Option.map (fun x => x.key) es[i]?).getD (enc k) = enc k := by simp [hi, hki]
      simp [Instr.mapUpdate, run_underlying hT, hgo, hc, hf, Result.andThen, hki, hi, hkts, hset]
    · refine ⟨_, _, World.putObj_heap_same hlt, ?_, bornOk_of_borns hB ?_⟩
      · rw [h3, List.map_set, ← hkv]
        apply List.ext_getElem?
        intro j
        simp only [List.getElem?_map, Array.getElem?_toList, Array.getElem?_modify, List.getElem?_set, List.length_map, Array.length_toList]
        by_cases hj : i = j
        · subst hj; simp [hi]
        · simp [hj]
      · have e3 : (es.modify i fun e => { e with key := enc k, val := encV x }).toList.map (·.born) = es.toList.map (·.born) := by
          apply List.ext_getElem?
          intro j
          simp only [List.getElem?_map, Array.getElem?_toList, Array.getElem?_modify]
          by_cases hj : i = j
          · subst hj; simp [hi]
          · simp [hj]
        rw [e3]
        exact List.Sublist.refl _

end

def fnOf (k : Int) : Nat := if k = 1 ∨ k = 2 ∨ k = 3 then 142 else if k = 4 then 143 else if k = 5 then 144 else if k = 6 then 145 else if k = 7 then 146 else if k = 8 ∨ k = 9 then 147 else 148

set_option maxRecDepth 100000 in
set_option maxHeartbeats 2000000 in
theorem whyFn_any (k : Int) (w : World) (h1 : 1 ≤ k) (h2 : k ≤ 10) :
    Calls Tryz.prog 98 #[.int .i64 k] w fun x w' => x = .returned (fnV (fnOf k)) ∧ Below w.heap.size w w' := by
  have hmm := @run_makeMap Tryz.prog
  have hz : ∀ w, (zeroValue 127).run Tryz.prog w = .ok .nilFunc w := fun w => by kernel_rfl
  have hu := Tryz.underlying166
  have hm0 : MapAt (w.alloc (.map #[] 0)) w.heap.size intE fnV [] := mapAt_new w intE fnV
  obtain ⟨w1, r1, p1, m1⟩ := run_update_kf keyInt hu hm0 (1 : Int) 142
  obtain ⟨w2, r2, p2, m2⟩ := run_update_kf keyInt hu m1 (2 : Int) 142
  obtain ⟨w3, r3, p3, m3⟩ := run_update_kf keyInt hu m2 (3 : Int) 142
  obtain ⟨w4, r4, p4, m4⟩ := run_update_kf keyInt hu m3 (4 : Int) 143
  obtain ⟨w5, r5, p5, m5⟩ := run_update_kf keyInt hu m4 (5 : Int) 144
  obtain ⟨w6, r6, p6, m6⟩ := run_update_kf keyInt hu m5 (6 : Int) 145
  obtain ⟨w7, r7, p7, m7⟩ := run_update_kf keyInt hu m6 (7 : Int) 146
  obtain ⟨w8, r8, p8, m8⟩ := run_update_kf keyInt hu m7 (8 : Int) 147
  obtain ⟨w9, r9, p9, m9⟩ := run_update_kf keyInt hu m8 (9 : Int) 147
  obtain ⟨w10, r10, p10, m10⟩ := run_update_kf keyInt hu m9 (10 : Int) 148
  have hl := (run_lookup_kf keyInt hu hz m10 k).1
  have hg : getKV k (putKV 10 148 (putKV 9 147 (putKV 8 147 (putKV 7 146 (putKV 6 145 (putKV 5 144 (putKV 4 143 (putKV 3 142 (putKV 2 142 (putKV (1 : Int) 142 [])))))))))) = some (fnOf k) := by
    have hc : k = 1 ∨ k = 2 ∨ k = 3 ∨ k = 4 ∨ k = 5 ∨ k = 6 ∨ k = 7 ∨ k = 8 ∨ k = 9 ∨ k = 10 := by omega
    rcases hc with rfl | rfl | rfl | rfl | rfl | rfl | rfl | rfl | rfl | rfl <;> decide
  rw [hg] at hl
  have HB : Hid (Below w.heap.size w w10) := Lib.hid (by
    have b0 : New w (w.alloc (.map #[] 0)) := New.alloc' w _
    have le := Nat.le_refl w.heap.size
    exact (p10.new (p9.new (p8.new (p7.new (p6.new (p5.new (p4.new (p3.new (p2.new (p1.new b0 le) le) le) le) le) le) le) le) le) le).below)
  unfold intE fnV at r1 r2 r3 r4 r5 r6 r7 r8 r9 r10
  unfold intE lookV fnV at hl
  simp only [Option.isSome_some] at hl
  unfold fnV
  generalize fnOf k = f at hl ⊢
  clear hg hm0 m1 m2 m3 m4 m5 m6 m7 m8 m9 m10 p1 p2 p3 p4 p5 p6 p7 p8 p9 p10 hz hu h1 h2
  go_enter Tryz.func98, Tryz.ntmps98
  go_wp2
  go_ret
  exact ⟨rfl, HB.out⟩
end Go.Proofs.YtlokljaeknmdpaaGreat
