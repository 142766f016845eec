/-
  A file's data, plainly: written, cut, read; no condition. · The contracts of package extent (Write, Trunc, Read, sized) ; condition: the lengths that any Go value has.
-/
import Derived.Test.YtlokljaeknmdpaaGreatKMap
import Derived.Laws.CopyOwn
import Derived.WalkKit
import Derived.WalkSpells
import Derived.WalkLawsBesides
import Derived.Lib.Hide
import Derived.Lib.MinMax
/-! ## ExtPl -/
namespace Go.Proofs.YtlokljaeknmdpaaGreat
open Go.RowKit

/-- the first n bytes of l, zeros behind -/
def fit (l : List UInt8) (n : Nat) : List UInt8 := l.take n ++ List.replicate (n - l.length) 0
theorem fit_length (l : List UInt8) (n : Nat) : (fit l n).length = n := by simp [fit]; omega

def readF (d : ByteArray) (off many : Int) : ByteArray :=
  if off < 0 ∨ many < 1 ∨ (d.size : Int) ≤ off then ⟨#[]⟩ else d.extract off.toNat (off.toNat + (min many (d.size - off)).toNat)

def truncF (d : ByteArray) (n : Int) : ByteArray × Int :=
  if n < 0 then (d, 1) else if 64 < n ∨ 64 < d.size then (d, 11) else (⟨(fit d.data.toList n.toNat).toArray⟩, 0)

def writeF (d : ByteArray) (off : Int) (s : ByteArray) : ByteArray × Int :=
  if off < 0 ∨ s.data.toList = [] then (d, 1)
  else if 64 < off ∨ 64 - off < s.size ∨ 64 < d.size then (d, 11)
  else (⟨(splice (fit d.data.toList (max d.size (off.toNat + s.size))) off.toNat s.data.toList).toArray⟩, 0)

end Go.Proofs.YtlokljaeknmdpaaGreat

/-! ## Ext -/
namespace Go.Proofs.YtlokljaeknmdpaaGreat
open Go.RowKit

def bytesV (l : List UInt8) : List Value := l.map fun b => .int .u8 b.toNat
def IsBytes (w : World) (b : Nat) (l : List UInt8) : Prop := w.heap[b]? = some (.cells (bytesV l).toArray 5 (0, 0))

theorem bytesV_oneCell (l : List UInt8) : ∀ v ∈ bytesV l, v.oneCell' = true := by
  intro v hv; simp [bytesV] at hv; obtain ⟨b, _, rfl⟩ := hv; rfl

theorem run_copy_str {P : Program} (w : World) (dT sT ty elem : TypeId) (g o dLen dCap : Nat) (cur : List Value) (t : TypeId) (s : ByteArray) (n : Nat)
    (hu : P.underlying dT = some (.slice elem)) (hs : (P.info? elem).map (·.size) = some 1)
    (hg : w.heap[g]? = some (.cells cur.toArray t (0, 0))) (hn : n = Nat.min s.size dLen) (hfit : o + n ≤ cur.length) :
    (Builtin.copy_ #[dT, sT] ty #[.slice (some ⟨g, o, none⟩) dLen dCap, .string s]).run P w =
      .ok (goInt n) (w.setRow g (splice cur o (bytesV (s.data.toList.take n))).toArray) := by
  have hle : n ≤ s.size := by rw [hn]; exact Nat.min_le_left _ _
  have hle' : n ≤ s.data.toList.length := by simpa using hle
  have hlen : (bytesV (s.data.toList.take n)).length = n := by simp [bytesV]; omega
  have hst := run_storeCells_at P g o t (bytesV (s.data.toList.take n)) 0 cur.toArray w hg (by rw [hlen]; simpa using hfit) (bytesV_oneCell _)
  have hex : List.take n (List.map (fun b => Value.int IntKind.u8 ↑b.toNat) s.data.toList) = bytesV (s.data.toList.take n) := by
    simp [bytesV, List.map_take]
  cases hq : P.info? elem with
  | none => simp [hq] at hs
  | some i =>
    simp [Builtin.copy_, run_underlying hu, Builtin.lenOf, Builtin.firstCells, sizeOf, typeInfo, hq, ← hn]
    simp only [hex, hst, Result.andThen_ok]
    simp [splice, hlen]

/-- copy of a string onto a row of bytes, at the walk's call -/
theorem wpList_copy_str {P : Program} {w : World} {ops : Array Oper} {rest : List Oper} {o : Oper} {a : Act} {Q : Exit → Act → World → Prop} (hgd : o.guard = none) (d s : Operand) (dT sT : TypeId)
    (ho : o.op = .call { callee := .builtin .copy, args := #[d, s], argTypes := #[dT, sT] }) (elem : TypeId) (hu : P.underlying dT = some (.slice elem)) (hsz : (P.info? elem).map (·.size) = some 1)
    (g off dLen dCap : Nat) (str : ByteArray) (hd : a.eval d = .slice (some ⟨g, off, none⟩) dLen dCap) (hs : a.eval s = .string str)
    (cur : List Value) (t : TypeId) (hg : w.heap[g]? = some (.cells cur.toArray t (0, 0))) (n : Nat) (hn : n = Nat.min str.size dLen)
    (hfit : off + n ≤ cur.length) (B : Nat) (w0 : World) (hb : Below B w0 w) (hBg : B ≤ g)
    (h : ∀ w', Hid (w'.heap[g]? = some (.cells (splice cur off (bytesV (str.data.toList.take n))).toArray t (0, 0))) → Below B w0 w' → wpList P ops Q rest (a.put o.dst (goInt n)) w') :
    wpList P ops Q (o :: rest) a w := by
  refine wpList_plain hgd fun K hK => ?_
  have hrun := run_copy_str (P := P) w dT sT o.type elem g off dLen dCap cur t str n hu hsz hg hn hfit
  unfold Oper.wp
  simp [execOp, ho, resolve, invoke, builtin, hd, hs, hrun, Result.andThen]
  exact hK _ _ (h _ (show _ = _ from setRow_heap w g _ _ t _ hg) (below_setRow hb hBg _))

theorem splice_zero (cur l : List Value) : splice cur 0 l = l ++ cur.drop l.length := by simp [splice]

theorem splice_fit (l m : List UInt8) (off : Nat) : splice (bytesV l) off (bytesV m) = bytesV (splice l off m) := by
  simp [splice, bytesV, List.map_take, List.map_drop]

theorem madeCells_bytes (n : Nat) : madeCells (Value.cells (.int .u8 0)) n = (bytesV (List.replicate n 0)).toArray := by
  apply Array.ext
  · simp [size_madeCells, bytesV]
  · intro i h1 h2
    simp [madeCells, bytesV, Value.cells, Nat.mod_one]

theorem IsBytes.convert {w : World} {b : Nat} {l : List UInt8} (h : IsBytes w b l) (n cap : Nat) (hn : l.length = n) :
    (convert 70 9 (.slice (some ⟨b, 0, none⟩) n cap)).run Tryz.prog w = .ok (.string ⟨l.toArray⟩) w := by
  subst hn
  refine run_convert_bytes_back w 70 9 5 _ cap l Tryz.underlying70 Tryz.underlying5 Tryz.underlying9 fun j hj => ?_
  have hadd : (⟨b, 0, none⟩ : Addr).add j = ⟨b, j, none⟩ := by unfold Addr.add; split <;> simp_all
  rw [hadd, cell_of_row w b j _ _ _ h]
  simp [bytesV, hj]

theorem bytes_info : (Tryz.prog.info? 5).map (·.size) = some 1 := by kernel_rfl
theorem infoByte : (Tryz.prog.info? 5).map (fun i => (i.zero, i.size, i.bytes)) = some (some (.int .u8 0), 1, 1) := by kernel_rfl

theorem fit_splice (l : List UInt8) (n : Nat) : splice (List.replicate n 0) 0 (l.take (Nat.min l.length n)) = fit l n := by
  have e : Nat.min l.length n = min l.length n := rfl
  simp only [splice, fit, List.take_zero, List.nil_append, e, List.length_take]
  congr 1
  · by_cases h : l.length ≤ n
    · rw [Nat.min_eq_left h, List.take_length, List.take_of_length_le h]
    · rw [Nat.min_eq_right (by omega)]
  · simp; omega

theorem fit_splice' (s : ByteArray) (n : Nat) : splice (bytesV (List.replicate n 0)) 0 (bytesV (s.data.toList.take (Nat.min s.size n))) = bytesV (fit s.data.toList n) := by
  rw [splice_fit]; congr 1; rw [← fit_splice]; simp

set_option maxHeartbeats 400000 in
theorem sized_any (s : ByteArray) (n : Nat) (w : World) (h1 : n ≤ 64) :
    Calls Tryz.prog 185 #[.string s, .int .i64 n] w fun e w' => e = .returned (.slice (some ⟨w.heap.size, 0, none⟩) n n) ∧ IsBytes w' w.heap.size (fit s.data.toList n) ∧ Below w.heap.size w w' := by
  obtain ⟨i0, hi, hz0, hz1, hz2⟩ := info_parts infoByte
  have hmk := run_make (P := Tryz.prog) w 70 5 i0 (.int .u8 0) Tryz.underlying70 hi hz0 .i64 .i64 n n (by omega) (by omega) (by rw [hz2]; omega) (by omega)
  rw [hz1, Nat.mul_one, Int.toNat_natCast, madeCells_bytes] at hmk
  clear hi hz0 hz1 hz2
  go_enter Tryz.func185, Tryz.ntmps185
  go_wp2_with (refine wpList_copy_str rfl _ _ 70 9 rfl 5 Tryz.underlying70 bytes_info w.heap.size 0 n n s rfl rfl (bytesV (List.replicate n 0)) 5 ?c1 (Nat.min s.size n) rfl ?c2 w.heap.size w ?c3 (Nat.le_refl _) ?_; (case c1 => exact heap_alloc_new _ _); (case c2 => simp [bytesV]; exact Nat.min_le_right _ _); (case c3 => exact (Below.refl _ _).alloc (Nat.le_refl _) _); intro w2 hg2 hb2)
  go_ret
  refine ⟨rfl, ?_, hb2⟩
  have h := hg2.out
  rw [fit_splice'] at h
  exact h

theorem post2 {a b : ByteArray} {x y : Int} (h : (a, x) = (b, y)) : Ending.returned (.tuple #[.string a, .int .i64 x]) = Ending.returned (.tuple #[.string b, .int .i64 y]) := by
  cases h; rfl

set_option maxHeartbeats 400000 in
theorem trunc_any (d : ByteArray) (n : Int) (w : World) (hd : d.size ≤ maxLen) :
    Calls Tryz.prog 153 #[.string d, .int .i64 n] w fun e w' => e = .returned (.tuple #[.string (truncF d n).1, .int .i64 (truncF d n).2]) ∧ Below w.heap.size w w' := by
  unfold maxLen at hd
  by_cases h1 : n < 0
  · have hr : truncF d n = (d, 1) := by simp [truncF, h1]
    rw [hr]; clear hr
    go_enter Tryz.func153, Tryz.ntmps153
    go_wp2
    go_ret2
    exact ⟨rfl, Below.refl _ _⟩
  by_cases h2 : 64 < n
  · have hr : truncF d n = (d, 11) := by simp [truncF, h1, h2]
    rw [hr]; clear hr
    go_enter Tryz.func153, Tryz.ntmps153
    go_wp2
    go_ret2
    exact ⟨rfl, Below.refl _ _⟩
  by_cases h3 : 64 < d.size
  · have hr : truncF d n = (d, 11) := by simp [truncF, h1, h3]
    rw [hr]; clear hr
    go_enter Tryz.func153, Tryz.ntmps153
    go_wp2
    go_ret2
    exact ⟨rfl, Below.refl _ _⟩
  have hr : truncF d n = (⟨(fit d.data.toList n.toNat).toArray⟩, 0) := by simp [truncF, h1, h2, h3]
  rw [hr]; clear hr
  obtain ⟨i, rfl⟩ := Int.eq_ofNat_of_zero_le (Int.not_lt.1 h1)
  rw [Int.toNat_natCast]
  go_enter Tryz.func153, Tryz.ntmps153
  go_wp2_with (go_at_call 185; refine (sized_any d i _ (by omega)).mono ?_; rintro e w1 ⟨rfl, hb1, hB⟩; have hcv := hb1.convert i i (fit_length _ _); have HI := Lib.hid hb1; clear hb1)
  go_ret2
  exact ⟨rfl, hB⟩

theorem splice_bytes {w : World} {b i : Nat} {l : List UInt8} {s : ByteArray} (h : w.heap[b]? = some (.cells (splice (bytesV l) i (bytesV (s.data.toList.take s.size))).toArray 5 (0, 0))) :
    IsBytes w b (splice l i s.data.toList) := by
  have e : s.data.toList.take s.size = s.data.toList := List.take_of_length_le (by rw [Array.length_toList]; exact Nat.le_refl _)
  rw [e, splice_fit] at h; exact h

set_option maxHeartbeats 400000 in
theorem write_any (d : ByteArray) (off : Int) (s : ByteArray) (w : World) (hd : d.size ≤ maxLen) (hs : s.size ≤ maxLen) :
    Calls Tryz.prog 152 #[.string d, .int .i64 off, .string s] w fun e w' => e = .returned (.tuple #[.string (writeF d off s).1, .int .i64 (writeF d off s).2]) ∧ Below w.heap.size w w' := by
  unfold maxLen at hd hs
  by_cases h1 : off < 0
  · have hr : writeF d off s = (d, 1) := by simp [writeF, h1]
    rw [hr]; clear hr
    go_enter Tryz.func152, Tryz.ntmps152
    go_wp2
    go_ret2
    exact ⟨rfl, Below.refl _ _⟩
  by_cases h2 : s.data.toList = []
  · have hr : writeF d off s = (d, 1) := by simp [writeF, h2]
    rw [hr]; clear hr
    have h2' : s.toList = [] := by rw [ByteArray.toList_eq]; exact h2
    clear h2
    go_enter Tryz.func152, Tryz.ntmps152
    go_wp2
    go_ret2
    exact ⟨rfl, Below.refl _ _⟩
  have h2' : s.toList.isEmpty = false := by simpa [ByteArray.toList_eq] using h2
  by_cases h3 : 64 < off
  · have hr : writeF d off s = (d, 11) := by simp [writeF, h1, h2, h3]
    rw [hr]; clear hr h2
    go_enter Tryz.func152, Tryz.ntmps152
    go_wp2
    go_ret2
    exact ⟨rfl, Below.refl _ _⟩
  by_cases h4 : 64 - off < s.size
  · have hr : writeF d off s = (d, 11) := by simp [writeF, h1, h2, h4]
    rw [hr]; clear hr h2
    go_enter Tryz.func152, Tryz.ntmps152
    go_wp2
    go_ret2
    exact ⟨rfl, Below.refl _ _⟩
  by_cases h5 : 64 < d.size
  · have hr : writeF d off s = (d, 11) := by simp [writeF, h1, h2, h5]
    rw [hr]; clear hr h2
    go_enter Tryz.func152, Tryz.ntmps152
    go_wp2
    go_ret2
    exact ⟨rfl, Below.refl _ _⟩
  have hr : writeF d off s = (⟨(splice (fit d.data.toList (max d.size (off.toNat + s.size))) off.toNat s.data.toList).toArray⟩, 0) := by simp [writeF, h1, h2, h3, h4, h5]
  rw [hr]; clear hr
  have h6 : 0 < s.size := Nat.pos_of_ne_zero (fun h => h2 (List.eq_nil_of_length_eq_zero (by rw [Array.length_toList]; exact h)))
  clear h2
  obtain ⟨i, rfl⟩ := Int.eq_ofNat_of_zero_le (Int.not_lt.1 h1)
  rw [Int.toNat_natCast]
  obtain ⟨m, hm⟩ : ∃ m : Nat, m = max d.size (i + s.size) := ⟨_, rfl⟩
  rw [← hm]
  have hmx : max (d.size : Int) ((i : Int) + s.size) = (m : Int) := by omega
  have hi1 : i + s.size ≤ m := by omega
  have hm64 : m ≤ 64 := by omega
  clear hm
  go_enter Tryz.func152, Tryz.ntmps152
  go_wp2_with (first | (go_at_call 185; refine (sized_any d m _ hm64).mono ?_; rintro e w1 ⟨rfl, hb1, hB⟩; have HI := Lib.hid hb1; clear hb1) | (refine wpList_copy_str rfl _ _ 70 9 rfl 5 Tryz.underlying70 bytes_info w.heap.size i (m - i) (m - i) s rfl rfl (bytesV (fit d.data.toList m)) 5 HI.out s.size ?c2 ?c3 w.heap.size w hB (Nat.le_refl _) ?_; (case c2 => exact (Nat.min_eq_left (by omega)).symm); (case c3 => rw [show (bytesV (fit d.data.toList m)).length = m by simp [bytesV, fit_length]]; omega); intro w2 hg2 hb2; have hcv := (splice_bytes hg2.out).convert m m (by rw [length_splice _ _ _ (by rw [fit_length]; simpa using hi1), fit_length]); clear HI hB))
  go_ret2
  exact ⟨rfl, hb2⟩

theorem write_is {d : ByteArray} {off : Int} {s : ByteArray} {a : ByteArray} {x : Int} (h : writeF d off s = (a, x)) (w : World) (hd : d.size ≤ maxLen) (hs : s.size ≤ maxLen) :
    Calls Tryz.prog 152 #[.string d, .int .i64 off, .string s] w fun e w' => e = .returned (.tuple #[.string a, .int .i64 x]) ∧ Below w.heap.size w w' := by
  have := write_any d off s w hd hs
  rw [h] at this; exact this
theorem trunc_is {d : ByteArray} {n : Int} {a : ByteArray} {x : Int} (h : truncF d n = (a, x)) (w : World) (hd : d.size ≤ maxLen) :
    Calls Tryz.prog 153 #[.string d, .int .i64 n] w fun e w' => e = .returned (.tuple #[.string a, .int .i64 x]) ∧ Below w.heap.size w w' := by
  have := trunc_any d n w hd
  rw [h] at this; exact this

end Go.Proofs.YtlokljaeknmdpaaGreat
