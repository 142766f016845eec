/-
  The contracts of strings.ContainsAny at the two bytes that no name may hold, and of op.Name; no condition.
-/
import Derived.Test.YtlokljaeknmdpaaGreatKMap
namespace Go.Proofs.YtlokljaeknmdpaaGreat
open Go.RowKit

set_option maxRecDepth 100000 in
set_option maxHeartbeats 400000 in
theorem indexByteLite_any (s : ByteArray) (c : Int) (w : World) :
    Calls Tryz.prog 217 #[.string s, .int .u8 c] w fun e w' => e = .returned (.int .i64 (Lib.indexByte s.data.toList c.toNat.toUInt8)) ∧ w = w' := by
  go_enter Tryz.func217, Tryz.ntmps217
  go_wp2
  rw [run_callFunc_extern Tryz.func219 (by kernel_rfl) (by kernel_rfl) (by kernel_rfl) (e := Extern.BytealgIndexByte.indexByte) (by kernel_rfl), Lib.run_indexByteString]
  simp only [Result.andThen]
  rw [Oper.upon_value]
  go_wp2
  go_ret
  exact ⟨rfl, rfl⟩

set_option maxRecDepth 100000 in
set_option maxHeartbeats 400000 in
theorem indexByte_any (s : ByteArray) (c : Int) (w : World) :
    Calls Tryz.prog 212 #[.string s, .int .u8 c] w fun e w' => e = .returned (.int .i64 (Lib.indexByte s.data.toList c.toNat.toUInt8)) ∧ w' = w := by
  go_enter Tryz.func212, Tryz.ntmps212
  go_wp2_with (go_at_call 217; refine (indexByteLite_any _ _ _).mono ?_; rintro e w' ⟨rfl, rfl⟩)
  go_ret
  exact ⟨rfl, rfl⟩

theorem indexByte_empty (c : Int) (w : World) :
    Calls Tryz.prog 212 #[.string ByteArray.empty, .int .u8 c] w fun e w' => e = .returned (.int .i64 (-1)) ∧ w' = w := indexByte_any ByteArray.empty c w

set_option maxRecDepth 100000 in
set_option maxHeartbeats 400000 in
theorem validRune_any (r : Int) (w : World) (h1 : 128 ≤ r) (hv : r < 55296 ∨ (57343 < r ∧ r ≤ 1114111)) :
    Calls Tryz.prog 213 #[.int .i32 r] w fun e w' => e = .returned (.bool true) ∧ w = w' := by
  by_cases c : r < 55296
  · go_enter Tryz.func213, Tryz.ntmps213
    go_wp2
    go_ret
    exact ⟨rfl, rfl⟩
  · have h3 : 57343 < r := by omega
    have h4 : r ≤ 1114111 := by omega
    clear hv
    go_enter Tryz.func213, Tryz.ntmps213
    go_wp2
    go_ret
    exact ⟨rfl, rfl⟩

theorem nx0 (w : World) (ty : TypeId) : (Instr.next (.pointer (some ⟨w.heap.size, 0, none⟩)) true ty).run Tryz.prog (w.iter ⟨#[47, 0]⟩ 0) =
      .ok (.tuple #[.bool true, .int .i64 0, .int .i32 47]) (w.iter ⟨#[47, 0]⟩ 1) := run_next_ascii w ⟨#[47, 0]⟩ 0 ty (by decide) (by decide)
theorem nx1 (w : World) (ty : TypeId) : (Instr.next (.pointer (some ⟨w.heap.size, 0, none⟩)) true ty).run Tryz.prog (w.iter ⟨#[47, 0]⟩ 1) =
      .ok (.tuple #[.bool true, .int .i64 1, .int .i32 0]) (w.iter ⟨#[47, 0]⟩ 2) := run_next_ascii w ⟨#[47, 0]⟩ 1 ty (by decide) (by decide)
theorem nx2 (w : World) (ty : TypeId) : (Instr.next (.pointer (some ⟨w.heap.size, 0, none⟩)) true ty).run Tryz.prog (w.iter ⟨#[47, 0]⟩ 2) =
      .ok (.tuple #[.bool false]) (w.iter ⟨#[47, 0]⟩ 2) := run_next_end w ⟨#[47, 0]⟩ 2 ty (by decide)

theorem bdrewN (w : World) (n : Nat) : Below w.heap.size w (w.drewN n) := ⟨rfl, rfl, rfl, Nat.le_refl _, fun _ _ => rfl⟩

theorem below_iter (w : World) (s : ByteArray) (p : Nat) : Below w.heap.size w (w.iter s p) := (Below.refl _ _).alloc (Nat.le_refl _) _

set_option maxRecDepth 100000 in
set_option maxHeartbeats 400000 in
theorem indexRune_err (w : World) :
    Calls Tryz.prog 203 #[.string ⟨#[47, 0]⟩, .int .i32 65533] w fun e w' => e = .returned (.int .i64 (-1)) ∧ Below w.heap.size w w' := by
  have n0 := nx0 w
  have n1 := nx1 w
  have n2 := nx2 w
  go_enter Tryz.func203, Tryz.ntmps203
  go_wp2
  refine wp_loop_rounds 3 ?_
  rw [rounds_succ]
  go_wp2
  rw [rounds_succ]
  go_wp2
  rw [rounds_succ]
  go_wp2
  go_ret
  exact ⟨rfl, below_iter _ _ _⟩

theorem conv_rune (r : Int) (w : World) : (convert 21 9 (.int .i32 r)).run Tryz.prog w = .ok (.string (Utf8.encode r)) w := by
  simp [convert, run_underlying Tryz.underlying21, run_underlying Tryz.underlying9, Conv.intToString]

set_option maxRecDepth 100000 in
set_option maxHeartbeats 800000 in
theorem indexRune_two (z : ByteArray) (hz : z.size = 2) (hz1 : ∀ h : 1 < z.size, z[1] = 0) (r : Nat) (b0 b1 : UInt8) (hcv : ∀ w, (convert 21 9 (.int .i32 r)).run Tryz.prog w = .ok (.string ⟨#[b0, b1]⟩) w)
    (w : World) (h1 : 128 ≤ r) (h2 : r ≠ 65533) (hv : r < 55296 ∨ (57343 < r ∧ r ≤ 1114111)) (hb : b1 ≠ 0) :
    Calls Tryz.prog 203 #[.string z, .int .i32 r] w fun e w' => e = .returned (.int .i64 (-1)) ∧ Below w.heap.size w w' := by
  have hvr := validRune_any r
  have HV := Lib.hid hv
  have e1 : ((r : Int) == 65533) = false := by rw [beq_eq_false_iff_ne]; omega
  obtain ⟨rs, hrs⟩ : ∃ rs : ByteArray, rs = ⟨#[b0, b1]⟩ := ⟨_, rfl⟩
  rw [← hrs] at hcv
  have hr2 : rs.size = 2 := by rw [hrs]; rfl
  have hr1 : ∀ h : 1 < rs.size, rs[1] = b1 := by subst hrs; intro h; rfl
  have g1 : 1 < z.size := by omega
  have g2 : 1 < rs.size := by omega
  have hb1 : ((z[1].toNat : Int) != (rs[1].toNat : Int)) = true := by
    rw [hz1 g1, hr1 g2, bne_iff_ne]; intro h
    exact hb (UInt8.toNat_inj.1 (by simpa using h.symm))
  clear hrs hv hz1 hr1 hb
  go_enter Tryz.func203, Tryz.ntmps203
  go_wp2_with (go_at_call 213; refine (hvr _ (by omega) (by have := HV.out; omega)).mono ?_; rintro e w' ⟨rfl, rfl⟩)
  go_step3
  go_wp2_with fail
  refine wp_loop_rounds 1 ?_
  rw [rounds_succ]
  go_wp2_with fail
  go_step3
  go_wp2_with fail
  go_region
  go_wp2_with fail
  have hw1 : IntKind.i64.wrap 2 = 2 := by decide
  have hw2 : IntKind.i64.wrap (1 + 1) = 2 := by decide
  go_quiet ((go_at_call 212; refine (indexByte_empty _ _).mono ?_; rintro e w' ⟨rfl, rfl⟩; exact ⟨rfl, _, rfl⟩))
  go_wp2
  rw [Exit.noGoto_ret]
  go_wp2
  rw [Exit.noGoto_ret]
  go_ret
  exact ⟨rfl, bdrewN _ _⟩

theorem encode_shape (r : Nat) (h1 : 128 ≤ r) (hv : r < 55296 ∨ (57343 < r ∧ r ≤ 1114111)) :
    (∃ b0 b1 : UInt8, Utf8.encode (r : Int) = ⟨#[b0, b1]⟩ ∧ b1 ≠ 0) ∨ (∃ b0 b1 b2 : UInt8, Utf8.encode (r : Int) = ⟨#[b0, b1, b2]⟩) ∨ ∃ b0 b1 b2 b3 : UInt8, Utf8.encode (r : Int) = ⟨#[b0, b1, b2, b3]⟩ := by
  have hval : Utf8.valid (r : Int) = true := by
    unfold Utf8.valid
    simp
    omega
  unfold Utf8.encode
  simp only [hval, if_true, Int.toNat_natCast]
  rw [if_neg (by omega)]
  by_cases c1 : r < 0x800
  · rw [if_pos c1]
    refine .inl ⟨_, _, rfl, ?_⟩
    intro h
    have := congrArg UInt8.toNat h
    simp at this
    omega
  · rw [if_neg c1]
    by_cases c2 : r < 0x10000
    · rw [if_pos c2]; exact .inr (.inl ⟨_, _, _, rfl⟩)
    · rw [if_neg c2]; exact .inr (.inr ⟨_, _, _, _, rfl⟩)

set_option maxRecDepth 100000 in
set_option maxHeartbeats 800000 in
theorem indexRune_more (z : ByteArray) (hz : z.size = 2) (r : Nat) (rs : ByteArray) (hcv : ∀ w, (convert 21 9 (.int .i32 r)).run Tryz.prog w = .ok (.string rs) w) (hr3 : rs.size = 3 ∨ rs.size = 4)
    (w : World) (h1 : 128 ≤ r) (h2 : r ≠ 65533) (hv : r < 55296 ∨ (57343 < r ∧ r ≤ 1114111)) :
    Calls Tryz.prog 203 #[.string z, .int .i32 r] w fun e w' => e = .returned (.int .i64 (-1)) ∧ Below w.heap.size w w' := by
  have hvr := validRune_any r
  have HV := Lib.hid hv
  have e1 : ((r : Int) == 65533) = false := by rw [beq_eq_false_iff_ne]; omega
  clear hv
  rcases hr3 with hr3 | hr3
  all_goals
    go_enter Tryz.func203, Tryz.ntmps203
    go_wp2_with (go_at_call 213; refine (hvr _ (by omega) (by have := HV.out; omega)).mono ?_; rintro e w' ⟨rfl, rfl⟩)
    go_step3
    go_wp2_with fail
    refine wp_loop_rounds 1 ?_
    rw [rounds_succ]
    go_wp2
    rw [Exit.noGoto_ret]
    go_ret
    exact ⟨rfl, (Below.refl _ _)⟩

theorem indexRune_big (z : ByteArray) (hz : z.size = 2) (hz1 : ∀ h : 1 < z.size, z[1] = 0) (r : Nat) (w : World) (h1 : 128 ≤ r) (h2 : r ≠ 65533) (hv : r < 55296 ∨ (57343 < r ∧ r ≤ 1114111)) :
    Calls Tryz.prog 203 #[.string z, .int .i32 r] w fun e w' => e = .returned (.int .i64 (-1)) ∧ Below w.heap.size w w' := by
  have hcv := conv_rune (r : Int)
  rcases encode_shape r h1 hv with ⟨b0, b1, he, hb⟩ | ⟨b0, b1, b2, he⟩ | ⟨b0, b1, b2, b3, he⟩
  · rw [he] at hcv
    exact indexRune_two z hz hz1 r b0 b1 hcv w h1 h2 hv hb
  · rw [he] at hcv
    exact indexRune_more z hz r _ hcv (.inl rfl) w h1 h2 hv
  · rw [he] at hcv
    exact indexRune_more z hz r _ hcv (.inr rfl) w h1 h2 hv

set_option maxRecDepth 100000 in
set_option maxHeartbeats 400000 in
theorem indexRune_ascii (z : ByteArray) (r : Nat) (w : World) (h1 : r < 128) :
    Calls Tryz.prog 203 #[.string z, .int .i32 r] w fun e w' => e = .returned (.int .i64 (Lib.indexByte z.data.toList (r : Int).toNat.toUInt8)) ∧ Below w.heap.size w w' := by
  go_enter Tryz.func203, Tryz.ntmps203
  go_wp2_with (go_at_call 212; refine (indexByte_any _ _ _).mono ?_; rintro e w' ⟨rfl, rfl⟩)
  go_ret
  exact ⟨rfl, (Below.refl _ _)⟩

/-- is a rune one of '/' and zero? -/
def badRune (c : Nat) : Bool := c == 47 || c == 0

theorem decode_shape (s : ByteArray) (pos : Nat) : (Utf8.decode s pos).1 < 128 ∨ (Utf8.decode s pos).1 = 65533 ∨
    (128 ≤ (Utf8.decode s pos).1 ∧ ((Utf8.decode s pos).1 < 55296 ∨ (57343 < (Utf8.decode s pos).1 ∧ (Utf8.decode s pos).1 ≤ 1114111))) := by
  have hb : ∀ k, (s.get! (pos + k)).toNat < 256 := fun k => (s.get! (pos + k)).toNat_lt
  have h0 := hb 0; have h1 := hb 1; have h2 := hb 2; have h3 := hb 3
  simp only [Utf8.decode]
  repeat' split
  all_goals simp_all [Utf8.runeError, Utf8.valid]
  all_goals omega

theorem indexRune_zs (r : Nat) (w : World) (hr : r < 128 ∨ r = 65533 ∨ (128 ≤ r ∧ (r < 55296 ∨ (57343 < r ∧ r ≤ 1114111)))) :
    Calls Tryz.prog 203 #[.string ⟨#[47, 0]⟩, .int .i32 r] w fun e w' => (∃ k : Int, e = .returned (.int .i64 k) ∧ decide (k ≥ 0) = badRune r) ∧ Below w.heap.size w w' := by
  by_cases h1 : r < 128
  · refine (indexRune_ascii _ r w h1).mono ?_
    rintro e w' ⟨rfl, hB⟩
    refine ⟨⟨_, rfl, ?_⟩, hB⟩
    rw [Int.toNat_natCast]
    have : ∀ r : Fin 128, decide (Lib.indexByte [47, 0] r.val.toUInt8 ≥ 0) = badRune r.val := by decide +kernel
    exact this ⟨r, h1⟩
  · by_cases h2 : r = 65533
    · subst h2
      refine (indexRune_err w).mono ?_
      rintro e w' ⟨rfl, hB⟩
      exact ⟨⟨_, rfl, rfl⟩, hB⟩
    · refine (indexRune_big ⟨#[47, 0]⟩ rfl (fun _ => rfl) r w (by omega) h2 (by omega)).mono ?_
      rintro e w' ⟨rfl, hB⟩
      refine ⟨⟨_, rfl, ?_⟩, hB⟩
      unfold badRune
      rw [beq_eq_false_iff_ne.2 (show r ≠ 47 by omega), beq_eq_false_iff_ne.2 (show r ≠ 0 by omega)]
      rfl

/-- does a text hold '/' or zero, rune by rune? -/
def badFrom (s : ByteArray) : Nat → Nat → Bool
  | 0, _ => false
  | n + 1, pos => if pos < s.size then (badRune (Utf8.decode s pos).1 || badFrom s n (pos + (Utf8.decode s pos).2)) else false
def hasBad (s : ByteArray) : Bool := badFrom s (s.size + 1) 0

theorem decode_pos (s : ByteArray) (pos : Nat) : 1 ≤ (Utf8.decode s pos).2 := by
  simp only [Utf8.decode]
  repeat' split
  all_goals simp

set_option maxRecDepth 100000 in
set_option maxHeartbeats 400000 in
theorem useAscii_any (n : Int) (w : World) (h : n ≤ 8) : Calls Tryz.prog 204 #[.int .i64 n] w fun e w' => e = .returned (.bool false) ∧ w = w' := by
  go_enter Tryz.func204, Tryz.ntmps204
  go_wp2
  go_ret
  exact ⟨by simp; omega, rfl⟩

def SomeK (w : World) (c : Bool) (e : Ending) (w' : World) : Prop := (∃ k : Int, e = .returned (.int .i64 k) ∧ decide (k ≥ 0) = c) ∧ Below w.heap.size w w'

theorem iterPos_of {w : World} {r pos : Nat} {s : ByteArray} (h : w.heap[r]? = some (.stringIter s pos)) : w.iterPos r = pos := by
  simp [World.iterPos, h]

set_option maxRecDepth 100000 in
set_option maxHeartbeats 1000000 in
theorem indexAny_any (s : ByteArray) (w : World) (h8 : s.size ≤ 8) :
    Calls Tryz.prog 186 #[.string s, .string ⟨#[47, 0]⟩] w (SomeK w (hasBad s)) := by
  go_enter Tryz.func186, Tryz.ntmps186
  go_wp2_with (go_at_call 204; refine (useAscii_any s.size _ (by omega)).mono ?_; rintro e w' ⟨rfl, rfl⟩)
  go_loopw [9, 10] (fun _ _ wr => ∃ pos n : Nat, Hid (wr.heap[w.heap.size]? = some (.stringIter s pos)) ∧ Hid (badFrom s n pos = hasBad s) ∧ Hid (Below w.heap.size w wr) ∧ s.size < pos + n) (fun _ _ wr => s.size + 5 - wr.iterPos w.heap.size)
  case atStart => exact ⟨0, s.size + 1, World.iter_heap _ _ _, rfl, below_iter _ _ _, by omega⟩
  case round =>
    obtain ⟨pos, n, hi, hb, hB, hn⟩ := hrel
    by_cases hlt : pos < s.size
    · obtain ⟨m, rfl⟩ : ∃ m, n = m + 1 := ⟨n - 1, by omega⟩
      have hnx := fun ty => run_next_str (P := Tryz.prog) wr w.heap.size s pos ty hi.out hlt
      have hd := decode_shape s pos
      have hd2 := decode_pos s pos
      have hbs : (badRune (Utf8.decode s pos).1 || badFrom s m (pos + (Utf8.decode s pos).2)) = hasBad s := by
        have h := hb.out
        simp only [badFrom, hlt, if_true] at h
        exact h
      generalize (Utf8.decode s pos).1 = c at *
      generalize (Utf8.decode s pos).2 = k at *
      obtain ⟨W1, hW1⟩ : ∃ W1, W1 = wr.putObj w.heap.size (.stringIter s (pos + k)) := ⟨_, rfl⟩
      have HIP := Lib.hid (iterPos_of hi.out)
      have hlw : w.heap.size < wr.heap.size := (Array.getElem?_eq_some_iff.1 hi.out).1
      have h1 : W1.heap[w.heap.size]? = some (.stringIter s (pos + k)) := by rw [hW1]; exact World.putObj_heap_same hlw
      have hB1 : Below w.heap.size w W1 := by
        rw [hW1]
        exact hB.out.trans ⟨rfl, rfl, rfl, by simp, fun i hi => World.putObj_heap_other (by omega)⟩
      have hz : w.heap.size < W1.heap.size := (Array.getElem?_eq_some_iff.1 h1).1
      rw [← hW1] at hnx
      have H1 := Lib.hid h1
      have HB1 := Lib.hid hB1
      have HBS := Lib.hid hbs
      have HD := Lib.hid hd
      clear hi hb hB hW1 h1 hB1 hbs hd hlw
      go_wp2_with fail
      refine (indexRune_zs c W1 HD.out).mono ?_
      rintro e w2 ⟨⟨kk, rfl, hk⟩, hB2⟩
      have h2 : w2.heap[w.heap.size]? = some (.stringIter s (pos + k)) := (hB2.block _ hz).trans H1.out
      have HB2 := Lib.hid (HB1.out.trans (hB2.mono (Nat.le_of_lt hz)))
      have H2 := Lib.hid h2
      clear hB2 h2 H1 HB1 hnx
      cases hc : badRune c with
      | true =>
        rw [hc] at hk HBS
        have hres : hasBad s = true := by rw [← HBS.out]; rfl
        have HR := Lib.hid hres
        have hk' : 0 ≤ kk := by simpa using hk
        clear hk hc HBS hres
        go_wp2
        go_ret
        refine ⟨⟨_, rfl, ?_⟩, HB2.out⟩
        rw [HR.out]; simp
      | false =>
        rw [hc] at hk HBS
        have HR : Hid (badFrom s m (pos + k) = hasBad s) := Lib.hid (by have := HBS.out; simpa using this)
        have hk' : ¬ 0 ≤ kk := by simpa using hk
        clear hk hc HBS
        go_wp2
        go_roundw
        case rel => exact ⟨pos + k, m, H2, HR, HB2, by omega⟩
        case measure => rw [iterPos_of H2.out, HIP.out]; omega
    · have hnx := fun ty => run_next_strEnd (P := Tryz.prog) wr w.heap.size s pos ty hi.out hlt
      have hres : hasBad s = false := by
        rw [← hb.out]
        cases n with
        | zero => rfl
        | succ m => simp [badFrom, hlt]
      have HR := Lib.hid hres
      clear hb hi hres
      go_wp2
      go_ret
      refine ⟨⟨_, rfl, ?_⟩, hB.out⟩
      rw [HR.out]; rfl

set_option maxRecDepth 100000 in
set_option maxHeartbeats 400000 in
theorem containsAny_any (s : ByteArray) (w : World) (h8 : s.size ≤ 8) :
    Calls Tryz.prog 158 #[.string s, .string ⟨#[47, 0]⟩] w fun e w' => e = .returned (.bool (hasBad s)) ∧ Below w.heap.size w w' := by
  go_enter Tryz.func158, Tryz.ntmps158
  go_wp2_with (go_at_call 186; refine (indexAny_any s _ h8).mono ?_; rintro e w' ⟨⟨k, rfl, hk⟩, hB⟩; have HK := Lib.hid hk; clear hk)
  go_ret
  exact ⟨congrArg (fun b => Ending.returned (.bool b)) HK.out, hB⟩

/-- is a text a name? as op.Name tells it -/
def nameOk (s : ByteArray) : Bool := !(s.size == 0) && (decide (s.size ≤ 8) && (!(s.data.toList == [46]) && (!(s.data.toList == [46, 46]) && !hasBad s)))

set_option maxRecDepth 100000 in
set_option maxHeartbeats 1000000 in
theorem name_any (s : ByteArray) (w : World) (hs : s.size ≤ maxLen) :
    Calls Tryz.prog 107 #[.string s] w fun e w' => e = .returned (.bool (nameOk s)) ∧ Below w.heap.size w w' := by
  unfold maxLen at hs
  have hl : s.data.toList.length = s.size := by rw [Array.length_toList]; rfl
  have ht : s.toList = s.data.toList := ByteArray.toList_eq s
  by_cases h0 : s.size = 0
  · have hr : nameOk s = false := by simp [nameOk, h0]
    have he : s.toList = [] := by rw [ht]; exact List.eq_nil_of_length_eq_zero (by omega)
    rw [hr]; clear hr hl ht h0
    go_enter Tryz.func107, Tryz.ntmps107
    go_wp2
    go_ret
    exact ⟨rfl, Below.refl _ _⟩
  have he : s.toList.isEmpty = false := by
    rw [ht]; cases hx : s.data.toList with
    | nil => rw [hx] at hl; simp at hl; omega
    | cons a b => rfl
  by_cases h8 : 8 < s.size
  · have hr : nameOk s = false := by unfold nameOk; rw [decide_eq_false (show ¬ s.size ≤ 8 by omega)]; simp
    rw [hr]; clear hr hl ht
    go_enter Tryz.func107, Tryz.ntmps107
    go_wp2
    go_ret
    exact ⟨rfl, Below.refl _ _⟩
  by_cases h1 : s.data.toList = [46]
  · have hr : nameOk s = false := by simp [nameOk, h1]
    have ht1 : s.toList = [46] := by rw [ht, h1]
    rw [hr]; clear hr hl ht h1
    go_enter Tryz.func107, Tryz.ntmps107
    go_wp2
    go_ret
    exact ⟨rfl, Below.refl _ _⟩
  have e1 : (s.toList != [46]) = true := by rw [ht, bne_iff_ne]; exact h1
  have e1' : ¬ s.toList = [46] := by rw [ht]; exact h1
  by_cases h2 : s.data.toList = [46, 46]
  · have hr : nameOk s = false := by simp [nameOk, h2]
    have ht1 : s.toList = [46, 46] := by rw [ht, h2]
    rw [hr]; clear hr hl ht h1 h2
    go_enter Tryz.func107, Tryz.ntmps107
    go_wp2
    go_ret
    exact ⟨rfl, Below.refl _ _⟩
  have e2 : (s.toList != [46, 46]) = true := by rw [ht, bne_iff_ne]; exact h2
  have e2' : ¬ s.toList = [46, 46] := by rw [ht]; exact h2
  have hr : nameOk s = !hasBad s := by
    unfold nameOk; rw [beq_eq_false_iff_ne.2 h0, decide_eq_true (show s.size ≤ 8 by omega), beq_eq_false_iff_ne.2 h1, beq_eq_false_iff_ne.2 h2]; rfl
  rw [hr]; clear hr hl ht h1 h2
  go_enter Tryz.func107, Tryz.ntmps107
  go_wp2_with (go_at_call 158; refine (containsAny_any s _ (by omega)).mono ?_; rintro e w' ⟨rfl, hB⟩)
  go_ret
  exact ⟨by simp [e1', e2'], hB⟩
end Go.Proofs.YtlokljaeknmdpaaGreat
