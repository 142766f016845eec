/-
  The walk of ExtentTells over the contracts of extent and of the document's answer; condition: lengths as the form has them.
-/
import Derived.Test.YtencnfcefnnaiaaCuts
namespace Go.Proofs.Ytencnfcefnnaiaa
open Go.RowKit

/-- a slice of bytes that the call owns -/
def OwnB (w : World) (B : Nat) (v : Value) (l : List UInt8) : Prop := w.ownsRow B 5 1 v l.length (bytesV l)

theorem wpList_append_byte {w : World} {ops : Array Oper} {rest : List Oper} {o : Oper} {a : Act} {Q : Exit → Act → World → Prop} (hgd : o.guard = none) (s x : Operand)
    (ho : o.op = .call { callee := .builtin .append, args := #[s, x], argTypes := #[35, 35] }) (B : Nat) (v : Value) (l : List UInt8) (b : UInt8) (w0 : World)
    (hs : a.eval s = v) (hown : Hid (OwnB w B v l)) (hb : Hid (Below B w0 w)) (hB : B ≤ w0.heap.size) (hx : a.eval x = .slice (some ⟨w.heap.size, 0, none⟩) 1 1) (hl : l.length ≤ 100000)
    (h : ∀ v' w', Hid (OwnB w' B v' (l ++ [b])) → Hid (Below B w0 w') → wpList Try.prog ops Q rest (a.put o.dst v') w') :
    wpList Try.prog ops Q (o :: rest) a (w.alloc (.cells #[.int .u8 b.toNat] 5)) := by
  obtain ⟨i0, hi, hz0, hz1, hz2⟩ := info_parts info5
  have hsz : B ≤ w.heap.size := Nat.le_trans hB hb.out.size
  have ho2 : (w.alloc (.cells #[.int .u8 b.toNat] 5)).ownsRow B 5 1 v l.length (bytesV l) := World.ownsRow.alloc hown.out _
  refine wpList_append_own _ hgd s x 35 ho B 5 i0 (.int .u8 0) 1 1 Try.underlying35 hi hz0 hz1 hz2 rfl (by decide) v l.length (bytesV l) hs ho2 ⟨w.heap.size, 0, none⟩ 1 1 [.int .u8 b.toNat] hx rfl ?_ ?_ ?_ ?_ ?_ ?_
  · intro j u hj
    match j, hj with
    | 0, hj => simp at hj; subst hj; exact cell_of_row _ w.heap.size 0 _ _ _ (heap_alloc_new w _)
  · intro u hu; simp at hu; subst hu; rfl
  · simp only [maxLen]; omega
  · omega
  · simp; omega
  · intro v' w' h1 hg _
    refine h v' w' ?_ ?_
    · show w'.ownsRow B 5 1 v' (l ++ [b]).length (bytesV (l ++ [b]))
      simpa [bytesV] using h1
    · show Below B w0 w'
      have hA : Below B w0 (w.alloc (.cells #[.int .u8 b.toNat] 5)) := hb.out.trans ((Below.refl B w).alloc hsz _)
      refine hA.trans ⟨hg.os, hg.tape, hg.output, hg.size, fun k hk => hg.block k (by simp; omega) ?_⟩
      intro he
      have := (World.ownsRow.lt ho2 k he.symm).1
      omega

theorem OwnB.string {w : World} {B : Nat} {v : Value} {l : List UInt8} (h : OwnB w B v l) : (convert 35 9 v).run Try.prog w = .ok (.string ⟨l.toArray⟩) w := by
  rcases h.2 with ⟨rfl, h0⟩ | ⟨g, cap, cur, rfl, _, hg, _, _, hcs, hcur⟩
  · obtain rfl : l = [] := List.eq_nil_of_length_eq_zero h0
    rw [run_convert_bytes_string w 35 9 5 none _ _ Try.underlying35 Try.underlying5 Try.underlying9]
    rfl
  · refine run_convert_bytes_back w 35 9 5 _ cap l Try.underlying35 Try.underlying5 Try.underlying9 fun j hj => ?_
    have hadd : (⟨g, 0, none⟩ : Addr).add j = ⟨g, j, none⟩ := by unfold Addr.add; split <;> simp_all
    rw [hadd, cell_of_row w g j _ _ _ hg]
    have e : cur.toList[j]? = (bytesV l)[j]? := by rw [← hcur, List.getElem?_take_of_lt (by omega)]
    rw [← Array.getElem?_toList, e]
    simp [bytesV, hj]

def atF (d : ByteArray) (i : Nat) : UInt8 := d.data.toList[i]?.getD 0

set_option maxHeartbeats 400000 in
theorem at_any (d : ByteArray) (i : Nat) (w : World) : Calls Try.prog 15 #[.string d, .int .i64 i] w fun e w' => e = .returned (.int .u8 (atF d i).toNat) ∧ w = w' := by
  by_cases h : i < d.size
  · have e : atF d i = d[i] := by
      unfold atF; rw [List.getElem?_eq_getElem (by rw [tolen]; exact h)]; rfl
    rw [e]; clear e
    go_enter Try.func15, Try.ntmps15
    go_wp2
    go_ret
    exact ⟨rfl, rfl⟩
  · have e : atF d i = 0 := by unfold atF; rw [List.getElem?_eq_none (by rw [tolen]; omega)]; rfl
    rw [e]; clear e
    go_enter Try.func15, Try.ntmps15
    go_wp2
    go_ret
    exact ⟨rfl, rfl⟩

def getB (l : List UInt8) (i : Nat) : UInt8 := l.getD i 0
theorem take_succ_getB (l : List UInt8) (i : Nat) (h : i < l.length) : l.take (i + 1) = l.take i ++ [getB l i] := by
  rw [List.take_succ_eq_append_getElem h]
  simp [getB, h]

set_option maxHeartbeats 1000000 in
theorem refTrunc_ok (d : ByteArray) (n : Nat) (w : World) (hn : n ≤ 64) (hd : d.size ≤ 64) :
    Calls Try.prog 12 #[.string d, .int .i64 n] w fun e w' => e = .returned (.tuple #[.string ⟨(fit d.data.toList n).toArray⟩, .int .i64 0]) ∧ Below w.heap.size w w' := by
  have hat : ∀ i, i < n → atF d i = getB (fit d.data.toList n) i := by
    intro i hi
    unfold atF getB
    rw [List.getD_eq_getElem?_getD, fit_get _ _ _ hi]
    rfl
  obtain ⟨L, hL⟩ : ∃ L, L = fit d.data.toList n := ⟨_, rfl⟩
  have hlen : L.length = n := by rw [hL, fit_length]
  rw [← hL] at hat ⊢
  have HAT := Lib.hid hat
  have HL := Lib.hid hlen
  clear hat hlen hL
  go_enter Try.func12, Try.ntmps12
  go_wp2
  go_loopw [6, 7] (fun v i wr => ∃ k : Nat, k ≤ n ∧ i = .int .i64 k ∧ Hid (OwnB wr w.heap.size v (L.take k)) ∧ Hid (Below w.heap.size w wr)) (fun _ i _ => n - (intOf i).toNat)
  case atStart => exact ⟨0, Nat.zero_le _, rfl, World.ownsRow_nil _ _ _ _, Below.refl _ _⟩
  case round =>
    obtain ⟨k, hk, rfl, ho, hB⟩ := hrel
    by_cases hlt : k < n
    · have hla : atF d k = getB L k := HAT.out k hlt
      have HLA := Lib.hid hla
      clear hla
      go_wp2_with (first | (go_at_call 15; refine (at_any d k _).mono ?_; rintro e w1 ⟨rfl, rfl⟩) | (at_builtin; refine wpList_append_byte rfl (.tmp 24) (.tmp 28) rfl w.heap.size _ (L.take k) (atF d k) w rfl ho hB (Nat.le_refl _) rfl ?c1 ?_; (case c1 => rw [List.length_take]; omega); intro v' w' ho' hB'; rw [HLA.out, ← take_succ_getB L k (by rw [HL.out]; exact hlt)] at ho'; clear ho hB))
      go_roundw
      case rel => exact ⟨k + 1, by omega, by go_num, ho', hB'⟩
      case measure => simp [intOf]; omega
    · obtain rfl : k = n := by omega
      have hcv := ho.out.string
      have e : L.take k = L := List.take_of_length_le (by rw [HL.out]; exact Nat.le_refl _)
      rw [e] at hcv
      clear e hn
      go_wp2
      go_ret2
      exact ⟨rfl, hB.out⟩

theorem refTrunc_any (d : ByteArray) (n : Int) (w : World) (hd : d.size ≤ maxLen) :
    Calls Try.prog 12 #[.string d, .int .i64 n] w fun e w' => e = .returned (.tuple #[.string (truncF d n).1, .int .i64 (truncF d n).2]) ∧ Below w.heap.size w w' := by
  unfold maxLen at hd
  by_cases h1 : n < 0
  · have hr : truncF d n = (d, 1) := by simp [truncF, h1]
    rw [hr]; clear hr
    go_enter Try.func12, Try.ntmps12
    go_wp2
    go_ret2
    exact ⟨rfl, Below.refl _ _⟩
  by_cases h2 : 64 < n
  · have hr : truncF d n = (d, 11) := by simp [truncF, h1, h2]
    rw [hr]; clear hr
    go_enter Try.func12, Try.ntmps12
    go_wp2
    go_ret2
    exact ⟨rfl, Below.refl _ _⟩
  by_cases h3 : 64 < d.size
  · have hr : truncF d n = (d, 11) := by simp [truncF, h1, h3]
    rw [hr]; clear hr
    go_enter Try.func12, Try.ntmps12
    go_wp2
    go_ret2
    exact ⟨rfl, Below.refl _ _⟩
  have hr : truncF d n = (⟨(fit d.data.toList n.toNat).toArray⟩, 0) := by simp [truncF, h1, h2, h3]
  rw [hr]; clear hr
  obtain ⟨i, rfl⟩ := Int.eq_ofNat_of_zero_le (Int.not_lt.1 h1)
  rw [Int.toNat_natCast]
  exact refTrunc_ok d i w (by omega) (by omega)

theorem OwnB.slice {w : World} {B : Nat} {v : Value} {l : List UInt8} (h : OwnB w B v l) : ∃ p c, v = .slice p l.length c := by
  rcases h.2 with ⟨rfl, h0⟩ | ⟨g, cap, cur, rfl, _⟩
  · exact ⟨none, 0, by rw [h0]⟩
  · exact ⟨_, _, rfl⟩

set_option maxHeartbeats 1000000 in
theorem refRead_any (d : ByteArray) (off many : Int) (w : World) (hd : d.size ≤ 2000) :
    Calls Try.prog 13 #[.string d, .int .i64 off, .int .i64 many] w fun e w' => e = .returned (.string (readF d off many)) ∧ Below w.heap.size w w' := by
  by_cases h1 : off < 0
  · have hr : readF d off many = ⟨#[]⟩ := by simp [readF, h1]
    rw [hr]; clear hr
    go_enter Try.func13, Try.ntmps13
    go_wp2
    go_ret
    exact ⟨rfl, Below.refl _ _⟩
  obtain ⟨i, rfl⟩ := Int.eq_ofNat_of_zero_le (Int.not_lt.1 h1)
  obtain ⟨M, hM⟩ : ∃ M : Nat, M = min many.toNat (d.size - i) := ⟨_, rfl⟩
  obtain ⟨L, hL⟩ : ∃ L, L = d.data.toList.drop i := ⟨_, rfl⟩
  have hlen : L.length = d.size - i := by rw [hL, List.length_drop, tolen]
  have hr : readF d i many = ⟨(L.take M).toArray⟩ := by
    unfold readF
    by_cases c : (i : Int) < 0 ∨ many < 1 ∨ (d.size : Int) ≤ i
    · rw [if_pos c, show M = 0 by omega]; rfl
    · rw [if_neg c, show (min many ((d.size : Int) - i)).toNat = M by omega]
      apply ByteArray.ext
      rw [ByteArray.data_extract]
      apply Array.ext'
      simp only [Int.toNat_natCast, Array.toList_extract, List.extract]
      rw [hL, show i + M - i = M by omega]
  rw [hr]; clear hr
  have hget : ∀ k, k < M → ∀ h : i + k < d.size, d[i + k] = getB L k := by
    intro k hk h
    have h' : i + k < d.data.toList.length := by rw [tolen]; exact h
    unfold getB
    rw [List.getD_eq_getElem?_getD, hL, List.getElem?_drop, List.getElem?_eq_getElem h']
    rfl
  have HG := Lib.hid hget
  have HL := Lib.hid hlen
  have hM1 : M ≤ d.size - i := by omega
  have hM2 : (M : Int) ≤ many ∨ M = 0 := by omega
  have hM3 : (M : Int) = many ∨ M = d.size - i ∨ (M = 0 ∧ many ≤ 0) := by omega
  clear hget hlen hL hM
  go_enter Try.func13, Try.ntmps13
  go_wp2
  go_loopw [7, 8] (fun v x wr => ∃ k : Nat, k ≤ M ∧ x = .int .i64 ((i : Int) + k) ∧ Hid (OwnB wr w.heap.size v (L.take k)) ∧ Hid (Below w.heap.size w wr)) (fun _ x _ => i + M - (intOf x).toNat)
  case atStart => exact ⟨0, Nat.zero_le _, by go_num, World.ownsRow_nil _ _ _ _, Below.refl _ _⟩
  case round =>
    obtain ⟨k, hk, rfl, ho, hB⟩ := hrel
    obtain ⟨p, c, rfl⟩ := ho.out.slice
    have hkl : (L.take k).length = k := by rw [List.length_take, HL.out]; omega
    rw [hkl] at ho
    by_cases hlt : k < M
    · have hid : i + k < d.size := by omega
      have hg := HG.out k hlt hid
      have HGK := Lib.hid hg
      clear hg
      have hkm : (k : Int) < many := by omega
      rw [hkl]
      clear hkl
      go_wp2_with (at_builtin; (refine wpList_append_byte rfl (.tmp 24) (.tmp 28) rfl w.heap.size _ (L.take k) d[i + k] w rfl ho hB (Nat.le_refl _) rfl ?c1 ?_); (case c1 => rw [List.length_take]; omega); intro v' w' ho' hB'; rw [HGK.out, ← take_succ_getB L k (by rw [HL.out]; omega)] at ho'; clear ho hB)
      go_roundw
      case rel => exact ⟨k + 1, by omega, by go_num, ho', hB'⟩
      case measure => simp [intOf]; omega
    · obtain rfl : k = M := by omega
      have hcv := ho.out.string
      rw [hkl]
      by_cases hc : i + k < d.size
      · have hc2 : ¬ (k : Int) < many := by omega
        go_wp2
        go_ret
        exact ⟨rfl, hB.out⟩
      · go_wp2
        go_ret
        exact ⟨rfl, hB.out⟩

set_option maxHeartbeats 1000000 in
theorem refWrite_ok (d s : ByteArray) (off : Nat) (w : World) (h1 : off ≤ 64) (h2 : off + s.size ≤ 64) (h3 : d.size ≤ 64) (h6 : 0 < s.size) :
    Calls Try.prog 10 #[.string d, .int .i64 off, .string s] w fun e w' =>
      e = .returned (.tuple #[.string ⟨(splice (fit d.data.toList (max d.size (off + s.size))) off s.data.toList).toArray⟩, .int .i64 0]) ∧ Below w.heap.size w w' := by
  obtain ⟨m, hm⟩ : ∃ m, m = max d.size (off + s.size) := ⟨_, rfl⟩
  rw [← hm]
  obtain ⟨L, hL⟩ : ∃ L, L = splice (fit d.data.toList m) off s.data.toList := ⟨_, rfl⟩
  have hlen : L.length = m := by rw [hL, length_splice _ _ _ (by rw [fit_length, tolen]; omega), fit_length]
  have hin : ∀ k, off ≤ k → ∀ h : k - off < s.size, s[k - off] = getB L k := by
    intro k hk h
    unfold getB
    rw [List.getD_eq_getElem?_getD, hL, splice_get _ _ _ _ (by rw [fit_length, tolen]; omega), tolen, if_pos (by omega), List.getElem?_eq_getElem (by rw [tolen]; exact h)]
    rfl
  have hout : ∀ k, k < m → ¬ (off ≤ k ∧ k < off + s.size) → atF d k = getB L k := by
    intro k hk h
    unfold getB atF
    rw [List.getD_eq_getElem?_getD, hL, splice_get _ _ _ _ (by rw [fit_length, tolen]; omega), tolen, if_neg h, fit_get _ _ _ hk]
    rfl
  rw [← hL]
  have HI := Lib.hid hin
  have HO := Lib.hid hout
  have HL := Lib.hid hlen
  have hm1 : d.size ≤ m := by omega
  have hm2 : off + s.size ≤ m := by omega
  have hm3 : m ≤ d.size ∨ m ≤ off + s.size := by omega
  have hm64 : m ≤ 64 := by omega
  have he : s.toList.isEmpty = false := by
    have : s.data.toList ≠ [] := fun h => by have := tolen s; rw [h] at this; simp only [List.length_nil] at this; omega
    simpa [ByteArray.toList_eq] using this
  clear hin hout hlen hL hm
  go_enter Try.func10, Try.ntmps10
  go_wp2
  go_loopw [8, 9] (fun v i wr => ∃ k : Nat, k ≤ m ∧ i = .int .i64 k ∧ Hid (OwnB wr w.heap.size v (L.take k)) ∧ Hid (Below w.heap.size w wr)) (fun _ i _ => m - (intOf i).toNat)
  case atStart => exact ⟨0, Nat.zero_le _, rfl, World.ownsRow_nil _ _ _ _, Below.refl _ _⟩
  case round =>
    obtain ⟨k, hk, rfl, ho, hB⟩ := hrel
    have HS := Lib.hid ho.out.string
    by_cases hlt : k < m
    · by_cases hin : off ≤ k ∧ k < off + s.size
      · have hks : k - off < s.size := by omega
        have HA := Lib.hid (HI.out k hin.1 hks)
        have b1 : off ≤ k := hin.1
        have b2 : k < off + s.size := hin.2
        clear hin
        by_cases hkd : k < d.size
        all_goals
          go_wp2_with (at_builtin; (refine wpList_append_byte rfl (.tmp 62) (.tmp 68) rfl w.heap.size _ (L.take k) s[k - off] w rfl ho hB (Nat.le_refl _) rfl ?c1 ?_); (case c1 => rw [List.length_take]; omega); intro v' w' ho' hB'; rw [HA.out, ← take_succ_getB L k (by rw [HL.out]; exact hlt)] at ho'; clear ho hB)
          go_roundw
          case rel => exact ⟨k + 1, by omega, by go_num, ho', hB'⟩
          case measure => simp [intOf]; omega
      · have HA := Lib.hid (HO.out k hlt hin)
        by_cases b1 : off ≤ k
        · have b2 : ¬ k < off + s.size := by omega
          have hkd : k < d.size := by omega
          clear hin
          go_wp2_with (first | (go_at_call 15; refine (at_any d k _).mono ?_; rintro e w1 ⟨rfl, rfl⟩) | (at_builtin; (refine wpList_append_byte rfl (.tmp 70) (.tmp 74) rfl w.heap.size _ (L.take k) (atF d k) w rfl ho hB (Nat.le_refl _) rfl ?c1 ?_); (case c1 => rw [List.length_take]; omega); intro v' w' ho' hB'; rw [HA.out, ← take_succ_getB L k (by rw [HL.out]; exact hlt)] at ho'; clear ho hB))
          go_roundw
          case rel => exact ⟨k + 1, by omega, by go_num, ho', hB'⟩
          case measure => simp [intOf]; omega
        · clear hin
          by_cases hkd : k < d.size
          all_goals
            go_wp2_with (first | (go_at_call 15; refine (at_any d k _).mono ?_; rintro e w1 ⟨rfl, rfl⟩) | (at_builtin; (refine wpList_append_byte rfl (.tmp 70) (.tmp 74) rfl w.heap.size _ (L.take k) (atF d k) w rfl ho hB (Nat.le_refl _) rfl ?c1 ?_); (case c1 => rw [List.length_take]; omega); intro v' w' ho' hB'; rw [HA.out, ← take_succ_getB L k (by rw [HL.out]; exact hlt)] at ho'; clear ho hB))
            go_roundw
            case rel => exact ⟨k + 1, by omega, by go_num, ho', hB'⟩
            case measure => simp [intOf]; omega
    · obtain rfl : k = m := by omega
      have hcv := ho.out.string
      have e : L.take k = L := List.take_of_length_le (by rw [HL.out]; exact Nat.le_refl _)
      rw [e] at hcv
      clear e
      have c1 : ¬ k < d.size := by omega
      have c2 : ¬ k < off + s.size := by omega
      go_wp2
      go_ret2
      exact ⟨rfl, hB.out⟩

theorem refWrite_any (d : ByteArray) (off : Int) (s : ByteArray) (w : World) (hd : d.size ≤ maxLen) (hs : s.size ≤ maxLen) :
    Calls Try.prog 10 #[.string d, .int .i64 off, .string s] w fun e w' => e = .returned (.tuple #[.string (writeF d off s).1, .int .i64 (writeF d off s).2]) ∧ Below w.heap.size w w' := by
  unfold maxLen at hd hs
  by_cases h1 : off < 0
  · have hr : writeF d off s = (d, 1) := by simp [writeF, h1]
    rw [hr]; clear hr
    go_enter Try.func10, Try.ntmps10
    go_wp2
    go_ret2
    exact ⟨rfl, Below.refl _ _⟩
  by_cases h2 : s.data.toList = []
  · have hr : writeF d off s = (d, 1) := by simp [writeF, h2]
    rw [hr]; clear hr
    have h2' : s.toList = [] := by rw [ByteArray.toList_eq]; exact h2
    clear h2
    go_enter Try.func10, Try.ntmps10
    go_wp2
    go_ret2
    exact ⟨rfl, Below.refl _ _⟩
  have h2' : s.toList.isEmpty = false := by simpa [ByteArray.toList_eq] using h2
  have h0 : 0 < s.size := Nat.pos_of_ne_zero (fun h => h2 (List.eq_nil_of_length_eq_zero (by rw [Array.length_toList]; exact h)))
  by_cases h3 : 64 < off
  · have hr : writeF d off s = (d, 11) := by simp [writeF, h1, h2, h3]
    rw [hr]; clear hr h2
    go_enter Try.func10, Try.ntmps10
    go_wp2
    go_ret2
    exact ⟨rfl, Below.refl _ _⟩
  by_cases h4 : 64 < s.size
  · have hr : writeF d off s = (d, 11) := by unfold writeF; rw [if_neg (fun h => h.elim h1 h2), if_pos (by omega)]
    rw [hr]; clear hr h2
    go_enter Try.func10, Try.ntmps10
    go_wp2
    go_ret2
    exact ⟨rfl, Below.refl _ _⟩
  by_cases h5 : 64 < d.size
  · have hr : writeF d off s = (d, 11) := by unfold writeF; rw [if_neg (fun h => h.elim h1 h2), if_pos (by omega)]
    rw [hr]; clear hr h2
    go_enter Try.func10, Try.ntmps10
    go_wp2
    go_ret2
    exact ⟨rfl, Below.refl _ _⟩
  by_cases h7 : 64 < off + s.size
  · have hr : writeF d off s = (d, 11) := by unfold writeF; rw [if_neg (fun h => h.elim h1 h2), if_pos (by omega)]
    rw [hr]; clear hr h2
    go_enter Try.func10, Try.ntmps10
    go_wp2
    go_ret2
    exact ⟨rfl, Below.refl _ _⟩
  have hr : writeF d off s = (⟨(splice (fit d.data.toList (max d.size (off.toNat + s.size))) off.toNat s.data.toList).toArray⟩, 0) := by unfold writeF; rw [if_neg (fun h => h.elim h1 h2), if_neg (by omega)]
  rw [hr]; clear hr
  obtain ⟨i, rfl⟩ := Int.eq_ofNat_of_zero_le (Int.not_lt.1 h1)
  rw [Int.toNat_natCast]
  exact refWrite_ok d s i w (by omega) (by omega) (by omega) h0

set_option maxHeartbeats 1000000 in
theorem tells_any (d : ByteArray) (off : Int) (s : ByteArray) (many : Int) (w : World) (hd : d.size ≤ maxLen) (hs : s.size ≤ maxLen) (hm : many ≤ 9223372036854775807) :
    Calls Try.prog 5 #[.string d, .int .i64 off, .string s, .int .i64 many] w (TrueB w) := by
  by_cases c1 : 2000 < d.size
  · unfold maxLen at hd
    go_enter Try.func5, Try.ntmps5
    go_wp2_with (go_at_call 7; refine (shown_any _).mono ?_; rintro e w1 ⟨rfl, hB⟩)
    go_ret
    exact ⟨rfl, hB⟩
  by_cases c2 : 2000 < s.size
  · unfold maxLen at hs
    go_enter Try.func5, Try.ntmps5
    go_wp2_with (go_at_call 7; refine (shown_any _).mono ?_; rintro e w1 ⟨rfl, hB⟩)
    go_ret
    exact ⟨rfl, hB⟩
  have M := Lib.hid (show d.size ≤ maxLen ∧ s.size ≤ maxLen ∧ d.size ≤ 2000 ∧ many ≤ 9223372036854775807 from ⟨hd, hs, by omega, hm⟩)
  obtain ⟨a, e1, h1⟩ : ∃ a x, writeF d off s = (a, x) := ⟨_, _, rfl⟩
  obtain ⟨c, e2, h2⟩ : ∃ a x, truncF d many = (a, x) := ⟨_, _, rfl⟩
  obtain ⟨r, h3⟩ : ∃ r, readF d off many = r := ⟨_, rfl⟩
  have q1 := refWrite_any d off s
  have q2 := refTrunc_any d many
  have q3 := refRead_any d off many
  rw [h1] at q1
  rw [h2] at q2
  rw [h3] at q3
  have Q1 := Lib.hid q1
  have Q2 := Lib.hid q2
  have Q3 := Lib.hid q3
  have H1 := Lib.hid h1
  have H2 := Lib.hid h2
  have H3 := Lib.hid h3
  have p1 : (a.toList == a.toList) = true := by simp
  have p2 : (c.toList == c.toList) = true := by simp
  have p3 : (r.toList == r.toList) = true := by simp
  have p4 : (e1 == e1) = true := by simp
  have p5 : (e2 == e2) = true := by simp
  clear q1 q2 q3 h1 h2 h3 hd hs hm
  go_enter Try.func5, Try.ntmps5
  go_wp2_with (go_at_call 7; refine (shown_any _).mono ?_; rintro e w1 ⟨rfl, hB⟩)
  refine (write_is H1.out _ M.out.1 M.out.2.1).mono ?_; rintro e w2 ⟨rfl, hB2⟩
  go_wp2_with fail
  refine (Q1.out _ M.out.1 M.out.2.1).mono ?_; rintro e w3 ⟨rfl, hB3⟩
  go_wp2_with fail
  refine (trunc_is H2.out _ M.out.1).mono ?_; rintro e w4 ⟨rfl, hB4⟩
  go_wp2_with fail
  refine (Q2.out _ M.out.1).mono ?_; rintro e w5 ⟨rfl, hB5⟩
  go_wp2_with fail
  refine (read_is H3.out _ M.out.1 M.out.2.2.2).mono ?_; rintro e w6 ⟨rfl, rfl⟩
  go_wp2_with fail
  refine (Q3.out _ M.out.2.2.1).mono ?_; rintro e w7 ⟨rfl, hB6⟩
  go_wp2
  go_ret
  exact ⟨rfl, (below5 hB hB2 hB3 hB4 hB5).trans (hB6.mono (below5 hB hB2 hB3 hB4 hB5).size)⟩

theorem tells_walk (a0 : ByteArray) (a1 : Int) (a2 : ByteArray) (a3 : Int) (w : World) (w0 : a0.size ≤ 140737488351232) (_w1 : (Lit.int .i64 a1).wf = true) (w2 : a2.size ≤ 140737488351232) (w3 : (Lit.int .i64 a3).wf = true) :
    Calls Try.prog 5 #[.string a0, .int .i64 a1, .string a2, .int .i64 a3] w fun e w' => e = .returned (.bool true) ∧ Below w.heap.size w w' :=
  tells_any a0 a1 a2 a3 w (by unfold maxLen; omega) (by unfold maxLen; omega) (wf_i64 w3).2
end Go.Proofs.Ytencnfcefnnaiaa
