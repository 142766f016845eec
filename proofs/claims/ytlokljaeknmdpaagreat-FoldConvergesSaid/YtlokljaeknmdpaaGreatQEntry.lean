/-
  m[k] op= x: mapEntry and entryStore; no condition.
-/
import Derived.Test.YtlokljaeknmdpaaGreatKMap
namespace Go.Proofs.YtlokljaeknmdpaaGreat
open Go.RowKit

section
variable {K V : Type} [DecidableEq K] {P : Program} {kt et T : TypeId} {enc : K → Value} {encV : V → Value} {kv : List (K × V)} {w : World} {b : Nat}

theorem bornOk_lt {es : Array MapEntry} {ck : Nat} (h : BornOk es ck) {i j : Nat} (hij : i < j) (hj : j < es.size) : (es[i]'(by omega)).born < es[j].born := by
  have := List.pairwise_iff_getElem.1 h.1 i j (by simp; omega) (by simpa using hj) hij
  simpa using this

theorem findIdx_born {es : Array MapEntry} {ck i : Nat} (h : BornOk es ck) (hi : i < es.size) : es.findIdx? (fun e => (e.born : Int) == ((es[i].born : Nat) : Int)) = some i := by
  rw [Array.findIdx?_eq_some_iff_getElem]
  refine ⟨hi, by simp, fun j hj => ?_⟩
  have := bornOk_lt h hj hi
  simp
  omega

omit [DecidableEq K] in
theorem getKV_put [DecidableEq K] (k : K) (x : V) : ∀ (l : List (K × V)), getKV k (putKV k x l) = some x
  | [] => by simp [putKV, getKV]
  | (a, v) :: l => by
    unfold putKV
    by_cases h : k = a
    · rw [if_pos h]; simp [getKV]
    · rw [if_neg h]; unfold getKV; rw [if_neg h]; exact getKV_put k x l
omit [DecidableEq K] in
theorem getKV_put_ne [DecidableEq K] {k a : K} (h : a ≠ k) (x : V) : ∀ (l : List (K × V)), getKV a (putKV k x l) = getKV a l
  | [] => by simp [putKV, getKV, h]
  | (b, v) :: l => by
    unfold putKV
    by_cases hb : k = b
    · rw [if_pos hb]; subst hb; simp [getKV, h]
    · rw [if_neg hb]; unfold getKV; rw [getKV_put_ne h x l]

theorem run_entry_kv (L : KeyLaw P kt enc) (hT : P.underlying T = some (.map kt et)) (x0 : V) (hz : ∀ w, (zeroValue et).run P w = .ok (encV x0) w) (hm : MapAt w b enc encV kv) (k : K) :
    ∃ (w' : World) (bn : Nat), (Instr.mapEntry T (.map (some b)) (enc k)).run P w = 
        .ok (.tuple #[lookV encV (encV x0) (getKV k kv), .int .i64 bn]) w' ∧ MapPut w b w' ∧
      (Instr.lookup T (.map (some b)) (enc k) false).run P w' = .ok (lookV encV (encV x0) (getKV k kv)) w' ∧
      ∀ x, ∃ w'', (Instr.entryStore T (.map (some b)) (.int .i64 bn) (encV x)).run P w' = .ok () w'' ∧ MapPut w' b w'' ∧ MapAt w'' b enc encV (putKV k x kv) := by
  obtain ⟨es, ck, hb, hkv, hB⟩ := hm
  have hlt := (Array.getElem?_eq_some_iff.1 hb).1
  have hf := run_findKey (encV := encV) L k es.toList kv hkv w
  have hg := findKV_get k kv 0
  have hgo : (getObj b).run P w = .ok (.map es ck) w := by simp [getObj, Sem.run, hb]
  have hset : ∀ o, (setObj b o).run P w = .ok () (w.putObj b o) := fun o => by simp [setObj, Sem.run, hb, World.putObj]
  have hc := L.check false k w
  have hlen : es.toList.length = kv.length := by have := congrArg List.length hkv; simpa using this
  cases hfk : findKV k kv 0 with
  | none =>
    rw [hfk] at hf hg
    simp only [Option.map_none] at hf hg
    rw [← hg]
    obtain ⟨w', hw'⟩ : ∃ w', w' = w.putObj b (.map (es.push { key := enc k, val := encV x0, born := ck }) (ck + 1)) := ⟨_, rfl⟩
    have hb' : w'.heap[b]? = some (.map (es.push { key := enc k, val := encV x0, born := ck }) (ck + 1)) := by rw [hw']; exact World.putObj_heap_same hlt
    have hm' : MapAt w' b enc encV (kv ++ [(k, x0)]) := ⟨_, _, hb', by rw [List.map_append, ← hkv]; simp, bornOk_push hB _ rfl⟩
    have hgk : getKV k (kv ++ [(k, x0)]) = some x0 := by
      have hn := (findKV_none k x0 kv 0 hfk).1
      rw [← hn]; exact getKV_put k x0 kv
    refine ⟨w', ck, ?_, ⟨_, _, _, _, hb, hw'⟩, ?_, fun x => ?_⟩
    · rw [hw']
      simp [Instr.mapEntry, run_underlying hT, hgo, hc, hf, hz w, lookV, Result.andThen, hset, goInt]
    · have := (run_lookup_kv L hT hz hm' k).2
      rw [hgk] at this
      exact this
    · have hgo' : (getObj b).run P w' = .ok (.map (es.push { key := enc k, val := encV x0, born := ck }) (ck + 1)) w' := by simp [getObj, Sem.run, hb']
      have hset' : ∀ o, (setObj b o).run P w' = .ok () (w'.putObj b o) := fun o => by simp [setObj, Sem.run, hb', World.putObj]
      have hfi : (es.push { key := enc k, val := encV x0, born := ck }).findIdx? (fun e => (e.born : Int) == (ck : Int)) = some es.size := by
        have := findIdx_born (i := es.size) (bornOk_push (e := { key := enc k, val := encV x0, born := ck }) hB rfl) (by simp)
        simpa using this
      have hlt' := (Array.getElem?_eq_some_iff.1 hb').1
      refine ⟨w'.putObj b (.map ((es.push { key := enc k, val := encV x0, born := ck }).modify es.size fun e => { e with val := encV x }) (ck + 1)), ?_, ⟨_, _, _, _, hb', rfl⟩, _, _, World.putObj_heap_same hlt', ?_, ?_⟩
      · simp only [Instr.entryStore, Sem.run_bind, hgo', Result.andThen, asInt, asIntOf]
        simp [hfi, hset']
      · rw [(findKV_none k x kv 0 hfk).1, List.map_append, ← hkv]
        apply List.ext_getElem?
        intro j
        simp only [List.getElem?_map, Array.getElem?_toList, Array.getElem?_modify, Array.getElem?_push, List.getElem?_append, List.length_map, Array.length_toList]
        by_cases hj : j = es.size
        · subst hj; simp
        · by_cases hj2 : j < es.size
          · simp [hj2, Ne.symm hj, hj]
          · have h1 : es[j]? = none := by simp; omega
            have h2 : j - es.size ≠ 0 := by omega
            simp [hj, Ne.symm hj, hj2, h2]
      · refine bornOk_of_borns (bornOk_push (e := { key := enc k, val := encV x0, born := ck }) hB rfl) ?_
        have e3 : ((es.push { key := enc k, val := encV x0, born := ck }).modify es.size fun e => { e with val := encV x }).toList.map (·.born) = (es.push { key := enc k, val := encV x0, born := ck }).toList.map (·.born) := by
          apply List.ext_getElem?
          intro j
          simp only [List.getElem?_map, Array.getElem?_toList, Array.getElem?_modify]
          split
          · simp [Option.map_map, Function.comp_def]
          · rfl
        rw [e3]
        exact List.Sublist.refl _
  | some p =>
    obtain ⟨i, v⟩ := p
    rw [hfk] at hf hg
    simp only [Option.map_some] at hf hg
    rw [← hg]
    obtain ⟨h1, h2, _, h4, _⟩ := findKV_put k v kv 0 i v hfk
    simp only [Nat.sub_zero] at h2 h4
    have hi : i < es.size := by rw [← Array.length_toList, hlen]; exact h2
    have hki : es[i].key = enc k := by
      have e1 : (es.toList.map (fun e => (e.key, e.val)))[i]? = some (es[i].key, es[i].val) := by simp [hi]
      rw [hkv, List.getElem?_map] at e1
      rw [List.getElem?_eq_getElem h2] at e1 h4
      simp at e1 h4
      rw [← e1.1, h4]
    have hkts : (Instr.keyThatStays (enc k) (enc k)).run P w = .ok (enc k) w := by simp [Instr.keyThatStays, L.bits]
    have hsame : (es.modify i fun e => { e with key := enc k }) = es := by
      apply Array.ext'
      apply List.ext_getElem?
      intro j
      simp only [Array.getElem?_toList, Array.getElem?_modify]
      by_cases hj : i = j
      · subst hj; simp [hi, ← hki]
      · simp [hj]
    obtain ⟨w', hw'⟩ : ∃ w', w' = w.putObj b (.map es ck) := ⟨_, rfl⟩
    have hb' : w'.heap[b]? = some (.map es ck) := by rw [hw']; exact World.putObj_heap_same hlt
    have hm' : MapAt w' b enc encV kv := ⟨_, _, hb', hkv, hB⟩
    refine ⟨w', es[i].born, ?_, ⟨_, _, _, _, hb, hw'⟩, ?_, fun x => ?_⟩
    · rw [hw']
      simp [Instr.mapEntry, run_underlying hT, hgo, hc, hf, Result.andThen, hki, hi, hkts, hset, hsame, goInt, lookV]
    · have := (run_lookup_kv L hT hz hm' k).2
      rw [← hg] at this
      exact this
    · have hgo' : (getObj b).run P w' = .ok (.map es ck) w' := by simp [getObj, Sem.run, hb']
      have hset' : ∀ o, (setObj b o).run P w' = .ok () (w'.putObj b o) := fun o => by simp [setObj, Sem.run, hb', World.putObj]
      have hfi := findIdx_born hB hi
      have hlt' := (Array.getElem?_eq_some_iff.1 hb').1
      obtain ⟨_, _, h3, _, _⟩ := findKV_put k x kv 0 i v hfk
      simp only [Nat.sub_zero] at h3
      refine ⟨w'.putObj b (.map (es.modify i fun e => { e with val := encV x }) ck), ?_, ⟨_, _, _, _, hb', rfl⟩, _, _, World.putObj_heap_same hlt', ?_, ?_⟩
      · simp only [Instr.entryStore, Sem.run_bind, hgo', Result.andThen, asInt, asIntOf]
        simp [hfi, hset']
      · rw [h3, List.map_set, ← hkv]
        apply List.ext_getElem?
        intro j
        simp only [List.getElem?_map, Array.getElem?_toList, Array.getElem?_modify, List.getElem?_set, List.length_map, Array.length_toList]
        by_cases hj : i = j
        · subst hj; simp [hi, hki]
        · simp [hj]
      · refine bornOk_of_borns hB ?_
        have e3 : (es.modify i fun e => { e with val := encV x }).toList.map (·.born) = es.toList.map (·.born) := by
          apply List.ext_getElem?
          intro j
          simp only [List.getElem?_map, Array.getElem?_toList, Array.getElem?_modify]
          by_cases hj : i = j
          · subst hj; simp [hi]
          · simp [hj]
        rw [e3]
        exact List.Sublist.refl _
end
end Go.Proofs.YtlokljaeknmdpaaGreat
