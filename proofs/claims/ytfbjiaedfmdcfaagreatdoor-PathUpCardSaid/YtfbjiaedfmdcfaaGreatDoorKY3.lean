/-
  Operations, plainly: which may be, why one can't be done to a graph, what it does; what is kept; no condition. · Operations, plainly: what stays true of a graph; no condition. · Operations, plainly: what each kind does when it can be done; no condition. · Operations, plainly: what is made, tied, gone; no condition. · What was written is read, plainly; no condition. · Operations, plainly: what is renamed, and what is data alone; no condition. · Operations, plainly: what is data alone; two that are apart; no condition.
-/
import Derived.Test.YtfbjiaedfmdcfaaGreatDoorKY1
import Derived.Test.YtfbjiaedfmdcfaaGreatDoorKY2
/-! ## OpPl -/
namespace Go.Proofs.YtfbjiaedfmdcfaaGreatDoor

structure Op where
  stamp : St
  kind : Int
  at_ : St
  ino : St
  to : St
  name : ByteArray
  new : ByteArray
  off : Int
  data : ByteArray
  deriving Inhabited, DecidableEq
def Op.cells (o : Op) : List Value := [.int .i64 o.stamp.t, .int .i64 o.stamp.r, .int .i64 o.kind, .int .i64 o.at_.t, .int .i64 o.at_.r, .int .i64 o.ino.t, .int .i64 o.ino.r, .int .i64 o.to.t, .int .i64 o.to.r, .string o.name, .string o.new, .int .i64 o.off, .string o.data]
def Op.v (o : Op) : Value := .agg #[.int .i64 o.stamp.t, .int .i64 o.stamp.r, .int .i64 o.kind, .int .i64 o.at_.t, .int .i64 o.at_.r, .int .i64 o.ino.t, .int .i64 o.ino.r, .int .i64 o.to.t, .int .i64 o.to.r, .string o.name, .string o.new, .int .i64 o.off, .string o.data]
theorem Op.one (o : Op) : ∀ u ∈ o.cells, u.oneCell' = true := by
  intro u hu
  simp only [Op.cells, List.mem_cons, List.not_mem_nil, or_false] at hu
  rcases hu with rfl | rfl | rfl | rfl | rfl | rfl | rfl | rfl | rfl | rfl | rfl | rfl | rfl <;> rfl

def Op.Small (o : Op) : Prop := o.name.size ≤ reachBytes ∧ o.new.size ≤ reachBytes ∧ o.data.size ≤ reachBytes

/-- the fields of a kind, as bits -/
def fieldsOf (k : Int) : Nat := if k = 1 then 9 else if k = 2 then 9 else if k = 3 then 73 else if k = 4 then 11 else if k = 5 then 11 else if k = 6 then 11 else if k = 7 then 31 else if k = 8 then 98 else if k = 9 then 34 else if k = 10 then 34 else 0
def hasNul (s : ByteArray) : Bool := s.data.toList.contains 0
def dataOk (o : Op) : Bool :=
  if o.kind = 3 then !(o.data.size == 0) && (decide (o.data.size ≤ 32) && !hasNul o.data)
  else if o.kind = 8 then decide (0 ≤ o.off) && (decide (o.off ≤ 64) && (!(o.data.size == 0) && decide (o.off + o.data.size ≤ 64)))
  else if o.kind = 9 then decide (0 ≤ o.off) && decide (o.off ≤ 64)
  else if o.kind = 10 then decide (0 ≤ o.off) && decide (o.off ≤ 4095)
  else true
def bitOk (f bit : Nat) (may none : Bool) : Bool := if f &&& bit ≠ 0 then may else none
def St.isZ (s : St) : Bool := decide (s = ⟨0, 0⟩)
def St.mayB (s : St) : Bool := YtfbjiaedfmdcfaaGreatDoor.mayB s.t s.r
def rowsOk (o : Op) : Bool :=
  bitOk (fieldsOf o.kind) 1 o.at_.mayB o.at_.isZ && (bitOk (fieldsOf o.kind) 2 o.ino.mayB o.ino.isZ && (bitOk (fieldsOf o.kind) 4 o.to.mayB o.to.isZ &&
  (bitOk (fieldsOf o.kind) 8 (nameOk o.name) (o.name.size == 0) && (bitOk (fieldsOf o.kind) 16 (nameOk o.new) (o.new.size == 0) && (bitOk (fieldsOf o.kind) 32 true (decide (o.off = 0)) && bitOk (fieldsOf o.kind) 64 true (o.data.size == 0))))))
def opMay (o : Op) : Bool := rowsOk o && (!(fieldsOf o.kind == 0) && (o.stamp.mayB && (!o.stamp.isZ && dataOk o)))
def makesOf (k : Int) : Int := if k = 1 then 1 else if k = 2 then 2 else if k = 3 then 3 else 0

def firstOf : List Int → Int
  | [] => 0
  | a :: l => if a = 0 then firstOf l else a
def whenB (b : Bool) (e : Int) : Int := if b then e else 0

section
variable (g : Gr)
def Gr.kindOf' (id : St) : Int := (g.got id).kind
def Gr.dirWhy (id : St) : Int := firstOf [whenB (decide (g.kindOf' id = 0)) 3, whenB (!decide (g.kindOf' id = 1)) 6]
def Gr.placeWhy (o : Op) : Int := whenB (g.look ⟨o.at_, o.name⟩).isSome 4
def Gr.makesWhy (o : Op) : Int := firstOf [g.dirWhy o.at_, g.placeWhy o, whenB (g.get o.stamp).isSome 4, whenB (decide (40 ≤ g.n.length)) 13]
def Gr.linksWhy (o : Op) : Int := firstOf [whenB (!(g.get o.ino).isSome || !(g.get o.at_).isSome) 3, g.dirWhy o.at_, whenB (decide (g.kindOf' o.ino = 1)) 5, g.placeWhy o, whenB (decide (6 ≤ (g.got o.ino).links)) 12]
def Gr.entryWhy (o : Op) : Int := whenB (!decide (g.look ⟨o.at_, o.name⟩ = some o.ino)) 3
def Gr.unlinksWhy (o : Op) : Int := firstOf [g.entryWhy o, whenB (decide (g.kindOf' o.ino = 1)) 5]
def Gr.rmdirsWhy (o : Op) : Int := firstOf [g.entryWhy o, whenB (!decide (g.kindOf' o.ino = 1)) 6, whenB (decide (0 < (g.list o.ino).length)) 7]
noncomputable def Gr.insideWhy (o : Op) : Int := whenB (decide (g.kindOf' o.ino = 1) && g.under o.to o.ino) 8
noncomputable def Gr.renamesWhy (o : Op) : Int :=
  if firstOf [g.entryWhy o, g.dirWhy o.to] ≠ 0 then firstOf [g.entryWhy o, g.dirWhy o.to]
  else match g.look ⟨o.to, o.new⟩ with
    | none => g.insideWhy o
    | some t => if t = o.ino then 0 else
      firstOf [g.insideWhy o, whenB (decide (g.kindOf' t = 1) && !decide (g.kindOf' o.ino = 1)) 5, whenB (decide (g.kindOf' o.ino = 1) && !decide (g.kindOf' t = 1)) 6, whenB (decide (g.kindOf' t = 1) && decide (0 < (g.list t).length)) 7]
def Gr.attrWhy (o : Op) : Int := whenB (decide (g.kindOf' o.ino = 0)) 3
def Gr.dataWhy (o : Op) : Int := firstOf [g.attrWhy o, whenB (decide (g.kindOf' o.ino = 1)) 5, whenB (decide (g.kindOf' o.ino = 3)) 8]
noncomputable def Gr.kindWhy (o : Op) : Int :=
  if o.kind = 1 ∨ o.kind = 2 ∨ o.kind = 3 then g.makesWhy o else if o.kind = 4 then g.linksWhy o else if o.kind = 5 then g.unlinksWhy o else if o.kind = 6 then g.rmdirsWhy o
  else if o.kind = 7 then g.renamesWhy o else if o.kind = 8 ∨ o.kind = 9 then g.dataWhy o else if o.kind = 10 then g.attrWhy o else 0
noncomputable def Gr.opWhy (o : Op) : Int := if opMay o then g.kindWhy o else 1

def Gr.gone (p : Pl) : Gr :=
  match g.look p with
  | some id => if ((g.untie p).got id).links = 0 then (g.untie p).drop id else g.untie p
  | none => g
noncomputable def Gr.rename (o : Op) : Gr :=
  match g.look ⟨o.to, o.new⟩ with
  | some t => if t = o.ino then g else (((g.gone ⟨o.to, o.new⟩).untie ⟨o.at_, o.name⟩).tie ⟨o.to, o.new, o.ino⟩)
  | none => ((g.untie ⟨o.at_, o.name⟩).tie ⟨o.to, o.new, o.ino⟩)
def Gr.setIf (id : St) (mode : Int) (data : ByteArray) : Gr := if g.setWhy id = 0 then g.set id mode data else g
noncomputable def Gr.does (o : Op) : Gr :=
  if o.kind = 1 ∨ o.kind = 2 ∨ o.kind = 3 then (((g.make o.stamp (makesOf o.kind)).setIf o.stamp 0 o.data).tie ⟨o.at_, o.name, o.stamp⟩)
  else if o.kind = 4 then g.tie ⟨o.at_, o.name, o.ino⟩
  else if o.kind = 5 ∨ o.kind = 6 then g.gone ⟨o.at_, o.name⟩
  else if o.kind = 7 then g.rename o
  else if o.kind = 8 then g.setIf o.ino (g.got o.ino).mode (writeF (g.got o.ino).data o.off o.data).1
  else if o.kind = 9 then g.setIf o.ino (g.got o.ino).mode (truncF (g.got o.ino).data o.off).1
  else if o.kind = 10 then g.setIf o.ino o.off (g.got o.ino).data
  else g
noncomputable def Gr.apply (o : Op) : Gr := if g.opWhy o = 0 then g.does o else g
end
end Go.Proofs.YtfbjiaedfmdcfaaGreatDoor

/-! ## OpLaw -/
namespace Go.Proofs.YtfbjiaedfmdcfaaGreatDoor

section
variable {g : Gr}

theorem Gr.Ok.makeD (h : g.Ok) (id : St) (kind : Int) : (g.make id kind).Ok := by
  unfold Gr.make; split
  · exact h.make ‹_›
  · exact h
theorem Gr.Ok.tieD (h : g.Ok) (x : Ent) : (g.tie x).Ok := by
  unfold Gr.tie; split
  · exact h.tie ‹_›
  · exact h
theorem Gr.Ok.untieD (h : g.Ok) (p : Pl) : (g.untie p).Ok := by
  unfold Gr.untie
  cases hl : g.look p with
  | none => exact h
  | some id => exact h.untie hl
theorem Gr.Ok.dropD (h : g.Ok) (id : St) : (g.drop id).Ok := by
  unfold Gr.drop; split
  · exact h.drop ‹_›
  · exact h
theorem Gr.Ok.setIf (h : g.Ok) (id : St) (mode : Int) (data : ByteArray) : (g.setIf id mode data).Ok := by
  unfold Gr.setIf; split
  · exact h.set _ _ _
  · exact h
theorem Gr.Ok.gone (h : g.Ok) (p : Pl) : (g.gone p).Ok := by
  unfold Gr.gone
  cases hl : g.look p with
  | none => exact h
  | some id =>
    simp only
    split
    · exact (h.untieD _).dropD _
    · exact h.untieD _
theorem Gr.Ok.rename (h : g.Ok) (o : Op) : (g.rename o).Ok := by
  unfold Gr.rename
  cases hl : g.look ⟨o.to, o.new⟩ with
  | none => exact (h.untieD _).tieD _
  | some t =>
    simp only
    split
    · exact h
    · exact ((h.gone _).untieD _).tieD _
theorem Gr.Ok.does (h : g.Ok) (o : Op) : (g.does o).Ok := by
  unfold Gr.does
  split
  · exact ((h.makeD _ _).setIf _ _ _).tieD _
  split
  · exact h.tieD _
  split
  · exact h.gone _
  split
  · exact h.rename o
  split
  · exact h.setIf _ _ _
  split
  · exact h.setIf _ _ _
  split
  · exact h.setIf _ _ _
  · exact h
theorem Gr.Ok.apply (h : g.Ok) (o : Op) : (g.apply o).Ok := by
  unfold Gr.apply; split
  · exact h.does o
  · exact h

/-! ### inodes' data are short -/
def Gr.Thin (g : Gr) : Prop := ∀ i ∈ g.n, i.data.size ≤ 64
theorem Gr.Thin.new : Gr.new.Thin := fun i hi => by
  rw [List.mem_singleton.1 hi]; decide
theorem Gr.Thin.got (h : g.Thin) (id : St) : (g.got id).data.size ≤ 64 := by
  unfold Gr.got
  cases hg : g.get id with
  | none => decide
  | some i => exact h i (Gr.get_some hg).1
theorem Gr.Thin.upd (h : g.Thin) {id : St} {f : Ino → Ino} {e' : List Ent} (hf : ∀ i, i.data.size ≤ 64 → (f i).data.size ≤ 64) : (⟨g.upd id f, e'⟩ : Gr).Thin := by
  intro j hj
  obtain ⟨i, hi, rfl⟩ := mem_upd (g := g) hj
  split
  · exact hf i (h i hi)
  · exact h i hi
theorem Gr.Thin.makeD (h : g.Thin) (id : St) (kind : Int) : (g.make id kind).Thin := by
  unfold Gr.make; split
  · intro i hi
    rcases (putIn_mem (x := (⟨id, kind, 0, 0, ⟨#[]⟩⟩ : Ino))).1 hi with rfl | hi
    · exact Nat.zero_le _
    · exact h i hi
  · exact h
theorem Gr.Thin.tieD (h : g.Thin) (x : Ent) : (g.tie x).Thin := by
  unfold Gr.tie; split
  · exact h.upd fun i hi => hi
  · exact h
theorem Gr.Thin.untieD (h : g.Thin) (p : Pl) : (g.untie p).Thin := by
  unfold Gr.untie
  cases hl : g.look p with
  | none => exact h
  | some id => exact h.upd fun i hi => hi
theorem Gr.Thin.dropD (h : g.Thin) (id : St) : (g.drop id).Thin := by
  unfold Gr.drop; split
  · exact fun i hi => h i (List.mem_filter.1 hi).1
  · exact h
theorem Gr.Thin.setIf (h : g.Thin) (id : St) (mode : Int) {data : ByteArray} (hd : data.size ≤ 64) : (g.setIf id mode data).Thin := by
  unfold Gr.setIf; split
  · exact h.upd fun i hi => hd
  · exact h
theorem Gr.Thin.gone (h : g.Thin) (p : Pl) : (g.gone p).Thin := by
  unfold Gr.gone
  cases hl : g.look p with
  | none => exact h
  | some id =>
    simp only
    split
    · exact (h.untieD _).dropD _
    · exact h.untieD _
theorem Gr.Thin.rename (h : g.Thin) (o : Op) : (g.rename o).Thin := by
  unfold Gr.rename
  cases hl : g.look ⟨o.to, o.new⟩ with
  | none => exact (h.untieD _).tieD _
  | some t =>
    simp only
    split
    · exact h
    · exact ((h.gone _).untieD _).tieD _
theorem truncF_size (d : ByteArray) (n : Int) (hd : d.size ≤ 64) : (truncF d n).1.size ≤ 64 := by
  unfold truncF
  split
  · exact hd
  split
  · exact hd
  · show (fit d.data.toList n.toNat).toArray.size ≤ 64
    rw [List.size_toArray, fit_length]; omega
theorem writeF_size (d : ByteArray) (off : Int) (s : ByteArray) (hd : d.size ≤ 64) : (writeF d off s).1.size ≤ 64 := by
  unfold writeF
  split
  · exact hd
  split
  · exact hd
  · show (splice (fit d.data.toList (max d.size (off.toNat + s.size))) off.toNat s.data.toList).toArray.size ≤ 64
    have hs : s.data.toList.length = s.size := by rw [Array.length_toList]; rfl
    rw [List.size_toArray, length_splice _ _ _ (by rw [fit_length, hs]; omega), fit_length]
    omega
theorem opMay_data {o : Op} (h : opMay o = true) (hk : o.kind = 1 ∨ o.kind = 2 ∨ o.kind = 3) : o.data.size ≤ 64 := by
  unfold opMay rowsOk dataOk bitOk fieldsOf at h
  rcases hk with hk | hk | hk <;> simp [hk] at h
  · rw [h.1.2.2.2.2.2.2]; decide
  · rw [h.1.2.2.2.2.2.2]; decide
  · omega
theorem opMay_kind {o : Op} (h : opMay o = true) : 1 ≤ o.kind ∧ o.kind ≤ 10 := by
  unfold opMay fieldsOf at h
  simp only [Bool.and_eq_true, Bool.not_eq_true', beq_eq_false_iff_ne, ne_eq] at h
  have h1 := h.2.1
  repeat' split at h1
  all_goals first | omega | exact absurd rfl h1
theorem opMay_stamp {o : Op} (h : opMay o = true) : mayB o.stamp.t o.stamp.r = true ∧ o.stamp ≠ ⟨0, 0⟩ := by
  unfold opMay at h
  simp only [Bool.and_eq_true, Bool.not_eq_true', St.isZ, decide_eq_false_iff_not] at h
  exact ⟨h.2.2.1, h.2.2.2.1⟩
theorem opMay_make {o : Op} (h : opMay o = true) (hk : o.kind = 1 ∨ o.kind = 2 ∨ o.kind = 3) : nameOk o.name = true ∧ (o.kind = 1 → o.data.size = 0) ∧ (o.kind = 2 → o.data.size = 0) ∧ (o.kind = 3 → 1 ≤ o.data.size ∧ o.data.size ≤ 32) := by
  unfold opMay rowsOk dataOk bitOk fieldsOf at h
  rcases hk with hk | hk | hk <;> simp [hk] at h
  · exact ⟨h.1.2.2.2.1, fun _ => by rw [h.1.2.2.2.2.2.2]; rfl, fun e => by omega, fun e => by omega⟩
  · exact ⟨h.1.2.2.2.1, fun e => by omega, fun _ => by rw [h.1.2.2.2.2.2.2]; rfl, fun e => by omega⟩
  · refine ⟨h.1.2.2.2.1, fun e => by omega, fun e => by omega, fun _ => ?_⟩
    have h1 : ¬ o.data.size = 0 := fun e => h.2.2.2.1 (by simpa using e)
    exact ⟨by omega, by omega⟩
theorem opMay_link {o : Op} (h : opMay o = true) (hk : o.kind = 4 ∨ o.kind = 5 ∨ o.kind = 6) : nameOk o.name = true := by
  unfold opMay rowsOk dataOk bitOk fieldsOf at h
  rcases hk with hk | hk | hk <;> simp [hk] at h
  all_goals exact h.1.2.2.2.1
theorem opMay_rename {o : Op} (h : opMay o = true) (hk : o.kind = 7) : nameOk o.name = true ∧ nameOk o.new = true := by
  unfold opMay rowsOk dataOk bitOk fieldsOf at h
  simp [hk] at h
  exact ⟨h.1.2.2.2.1, h.1.2.2.2.2.1⟩
theorem opMay_attr {o : Op} (h : opMay o = true) (hk : o.kind = 10) : 0 ≤ o.off ∧ o.off ≤ 4095 := by
  unfold opMay rowsOk dataOk bitOk fieldsOf at h
  simp [hk] at h
  exact ⟨h.2.2.2.1, h.2.2.2.2⟩
theorem opWhy_may {o : Op} (h : g.opWhy o = 0) : opMay o = true := by
  unfold Gr.opWhy at h
  cases hm : opMay o with
  | true => rfl
  | false => rw [hm] at h; cases h
theorem Gr.Thin.apply (h : g.Thin) (o : Op) : (g.apply o).Thin := by
  unfold Gr.apply
  split
  · rename_i hw
    have hm := opWhy_may hw
    unfold Gr.does
    split
    · exact ((h.makeD _ _).setIf _ _ (opMay_data hm ‹_›)).tieD _
    split
    · exact h.tieD _
    split
    · exact h.gone _
    split
    · exact h.rename o
    split
    · exact h.setIf _ _ (writeF_size _ _ _ (h.got _))
    split
    · exact h.setIf _ _ (truncF_size _ _ (h.got _))
    split
    · exact h.setIf _ _ (h.got _)
    · exact h
  · exact h
/-- what operations made -/
noncomputable def ran (l : List Op) : Gr := l.foldl Gr.apply Gr.new
theorem ran_ok (l : List Op) : (ran l).Ok := by
  have : ∀ (l : List Op) (g : Gr), g.Ok → (l.foldl Gr.apply g).Ok := by
    intro l
    induction l with
    | nil => intro g h; exact h
    | cons d l ih => intro g h; exact ih _ (h.apply d)
  exact this l _ Gr.Ok.new
theorem ran_thin (l : List Op) : (ran l).Thin := by
  have : ∀ (l : List Op) (g : Gr), g.Thin → (l.foldl Gr.apply g).Thin := by
    intro l
    induction l with
    | nil => intro g h; exact h
    | cons d l ih => intro g h; exact ih _ (h.apply d)
  exact this l _ Gr.Thin.new
end
end Go.Proofs.YtfbjiaedfmdcfaaGreatDoor

/-! ## OpDo -/
namespace Go.Proofs.YtfbjiaedfmdcfaaGreatDoor

theorem firstOf_zero {l : List Int} : firstOf l = 0 ↔ ∀ a ∈ l, a = 0 := by
  induction l with
  | nil => simp [firstOf]
  | cons a l ih =>
    unfold firstOf
    by_cases h : a = 0
    · rw [if_pos h, ih]; simp [h]
    · rw [if_neg h]; simp [h]
theorem whenB_zero {b : Bool} {e : Int} (he : e ≠ 0) : whenB b e = 0 ↔ b = false := by
  unfold whenB; cases b <;> simp [he]

section
variable {g : Gr}
theorem Gr.kind_some {id : St} (h : g.kindOf' id ≠ 0) : (g.get id).isSome = true := by
  unfold Gr.kindOf' Gr.got at h
  cases hg : g.get id with
  | none => rw [hg] at h; exact absurd rfl h
  | some i => rfl
theorem Gr.dir_iff {id : St} : g.isDir id = true ↔ g.kindOf' id = 1 := by
  unfold Gr.isDir
  constructor
  · intro h; simp only [Bool.and_eq_true, beq_iff_eq] at h; exact h.2
  · intro h
    have := Gr.kind_some (g := g) (id := id) (by rw [h]; decide)
    rw [this]; show (g.kindOf' id == 1) = true; rw [h]; rfl
theorem Gr.dirWhy_zero {id : St} : g.dirWhy id = 0 ↔ g.isDir id = true := by
  unfold Gr.dirWhy
  rw [firstOf_zero, Gr.dir_iff]
  simp only [List.mem_cons, List.not_mem_nil, or_false, forall_eq_or_imp, forall_eq]
  rw [whenB_zero (by decide), whenB_zero (by decide)]
  simp only [decide_eq_false_iff_not, Bool.not_eq_false', decide_eq_true_eq]
  omega

theorem Gr.makesWhy_zero {o : Op} (h : g.makesWhy o = 0) : g.isDir o.at_ = true ∧ g.look ⟨o.at_, o.name⟩ = none ∧ g.get o.stamp = none ∧ g.n.length < 40 := by
  unfold Gr.makesWhy Gr.placeWhy at h
  rw [firstOf_zero] at h
  simp only [List.mem_cons, List.not_mem_nil, or_false, forall_eq_or_imp, forall_eq] at h
  rw [whenB_zero (by decide), whenB_zero (by decide), whenB_zero (by decide), Gr.dirWhy_zero] at h
  exact ⟨h.1, by simpa using h.2.1, by simpa using h.2.2.1, by simpa using h.2.2.2⟩
theorem Gr.linksWhy_zero {o : Op} (h : g.linksWhy o = 0) : (g.get o.ino).isSome = true ∧ g.isDir o.at_ = true ∧ g.kindOf' o.ino ≠ 1 ∧ g.look ⟨o.at_, o.name⟩ = none ∧ (g.got o.ino).links < 6 := by
  unfold Gr.linksWhy Gr.placeWhy at h
  rw [firstOf_zero] at h
  simp only [List.mem_cons, List.not_mem_nil, or_false, forall_eq_or_imp, forall_eq] at h
  rw [whenB_zero (by decide), whenB_zero (by decide), whenB_zero (by decide), whenB_zero (by decide), Gr.dirWhy_zero] at h
  obtain ⟨h1, h2, h3, h4, h5⟩ := h
  simp only [Bool.or_eq_false_iff, Bool.not_eq_false'] at h1
  exact ⟨h1.1, h2, by simpa using h3, by simpa using h4, by simpa using h5⟩
theorem Gr.entryWhy_zero {o : Op} : g.entryWhy o = 0 ↔ g.look ⟨o.at_, o.name⟩ = some o.ino := by
  unfold Gr.entryWhy
  rw [whenB_zero (by decide)]; simp
theorem Gr.unlinksWhy_zero {o : Op} (h : g.unlinksWhy o = 0) : g.look ⟨o.at_, o.name⟩ = some o.ino ∧ g.kindOf' o.ino ≠ 1 := by
  unfold Gr.unlinksWhy at h
  rw [firstOf_zero] at h
  simp only [List.mem_cons, List.not_mem_nil, or_false, forall_eq_or_imp, forall_eq] at h
  rw [whenB_zero (by decide), Gr.entryWhy_zero] at h
  exact ⟨h.1, by simpa using h.2⟩
theorem Gr.rmdirsWhy_zero {o : Op} (h : g.rmdirsWhy o = 0) : g.look ⟨o.at_, o.name⟩ = some o.ino ∧ g.kindOf' o.ino = 1 ∧ g.list o.ino = [] := by
  unfold Gr.rmdirsWhy at h
  rw [firstOf_zero] at h
  simp only [List.mem_cons, List.not_mem_nil, or_false, forall_eq_or_imp, forall_eq] at h
  rw [whenB_zero (by decide), whenB_zero (by decide), Gr.entryWhy_zero] at h
  exact ⟨h.1, by simpa using h.2.1, by simpa using h.2.2⟩
theorem Gr.attrWhy_zero {o : Op} (h : g.attrWhy o = 0) : (g.get o.ino).isSome = true := by
  unfold Gr.attrWhy at h
  rw [whenB_zero (by decide)] at h
  exact Gr.kind_some (by simpa using h)
theorem Gr.dataWhy_zero {o : Op} (h : g.dataWhy o = 0) : (g.get o.ino).isSome = true ∧ g.kindOf' o.ino ≠ 1 ∧ g.kindOf' o.ino ≠ 3 := by
  unfold Gr.dataWhy at h
  rw [firstOf_zero] at h
  simp only [List.mem_cons, List.not_mem_nil, or_false, forall_eq_or_imp, forall_eq] at h
  rw [whenB_zero (by decide), whenB_zero (by decide)] at h
  exact ⟨Gr.attrWhy_zero h.1, by simpa using h.2.1, by simpa using h.2.2⟩
theorem Gr.renamesWhy_zero {o : Op} (h : g.renamesWhy o = 0) : g.look ⟨o.at_, o.name⟩ = some o.ino ∧ g.isDir o.to = true ∧
    (g.look ⟨o.to, o.new⟩ = some o.ino ∨ (g.look ⟨o.to, o.new⟩ = none ∧ (g.isDir o.ino = true → ¬ g.Under o.ino o.to)) ∨
      ∃ t, g.look ⟨o.to, o.new⟩ = some t ∧ t ≠ o.ino ∧ (g.isDir o.ino = true → ¬ g.Under o.ino o.to) ∧ (g.isDir t = g.isDir o.ino) ∧ (g.isDir t = true → g.list t = [])) := by
  unfold Gr.renamesWhy at h
  by_cases h0 : firstOf [g.entryWhy o, g.dirWhy o.to] = 0
  · rw [if_neg (fun hc => hc h0)] at h
    rw [firstOf_zero] at h0
    simp only [List.mem_cons, List.not_mem_nil, or_false, forall_eq_or_imp, forall_eq] at h0
    rw [Gr.entryWhy_zero, Gr.dirWhy_zero] at h0
    refine ⟨h0.1, h0.2, ?_⟩
    have hin : g.insideWhy o = 0 → g.isDir o.ino = true → ¬ g.Under o.ino o.to := by
      intro hi hd hu
      unfold Gr.insideWhy at hi
      rw [whenB_zero (by decide), Gr.dir_iff.1 hd, Gr.under_iff.2 hu] at hi
      cases hi
    cases hl : g.look ⟨o.to, o.new⟩ with
    | none => rw [hl] at h; exact .inr (.inl ⟨rfl, hin h⟩)
    | some t =>
      rw [hl] at h
      simp only at h
      by_cases ht : t = o.ino
      · subst ht; exact .inl rfl
      · rw [if_neg ht, firstOf_zero] at h
        simp only [List.mem_cons, List.not_mem_nil, or_false, forall_eq_or_imp, forall_eq] at h
        rw [whenB_zero (by decide), whenB_zero (by decide), whenB_zero (by decide)] at h
        obtain ⟨h1, h2, h3, h4⟩ := h
        simp only [Bool.and_eq_false_iff, Bool.not_eq_false', decide_eq_true_eq, decide_eq_false_iff_not] at h2 h3 h4
        refine .inr (.inr ⟨t, rfl, ht, hin h1, ?_, fun hd => ?_⟩)
        · rw [Bool.eq_iff_iff, Gr.dir_iff, Gr.dir_iff]
          constructor
          · intro hk; rcases h2 with h2 | h2
            · exact absurd hk h2
            · exact h2
          · intro hk; rcases h3 with h3 | h3
            · exact absurd hk h3
            · exact h3
        · rw [Gr.dir_iff] at hd
          rcases h4 with h4 | h4
          · exact absurd hd h4
          · exact List.eq_nil_of_length_eq_zero (by omega)
  · rw [if_pos h0] at h
    exact absurd h h0

/-- an inode that is put in anew, changed -/
theorem putIn_map {f : Ino → Ino} (hf : ∀ j, (f j).id = j.id) (i : Ino) (l : List Ino) : (putIn Ino.id ltSt i l).map f = putIn Ino.id ltSt (f i) (l.map f) := by
  unfold putIn
  rw [List.map_append, List.map_cons, List.takeWhile_map, List.dropWhile_map]
  have e : (fun a => decide (ltSt a.id i.id)) = (fun a => decide (ltSt a.id (f i).id)) ∘ f := by
    funext a; simp [Function.comp, hf]
  rw [← e]
theorem map_none {f : Ino → Ino} {id : St} {l : List Ino} (h : ∀ i ∈ l, i.id ≠ id) : (l.map fun i => if i.id = id then f i else i) = l := by
  conv => rhs; rw [← List.map_id l]
  apply List.map_congr_left
  intro i hi
  rw [if_neg (h i hi)]; rfl
theorem upd_put {f : Ino → Ino} (hf : ∀ j, (f j).id = j.id) {i : Ino} {l : List Ino} {e : List Ent} (h : ∀ j ∈ l, j.id ≠ i.id) : (⟨putIn Ino.id ltSt i l, e⟩ : Gr).upd i.id f = putIn Ino.id ltSt (f i) l := by
  unfold Gr.upd
  show (putIn Ino.id ltSt i l).map (fun j => if j.id = i.id then f j else j) = _
  rw [putIn_map (f := fun j => if j.id = i.id then f j else j) (fun j => by split <;> simp [hf]), map_none h]
  simp
theorem Gr.under_src {d a : St} (h : g.Under d a) : a = d ∨ ∃ x ∈ g.e, x.at_ = d := by
  induction h with
  | here => exact .inl rfl
  | step hp _ ih =>
    rcases ih with rfl | ih
    · obtain ⟨_, x, hx, _, hxp⟩ := Gr.parent_some hp
      exact .inr ⟨x, hx, hxp⟩
    · exact .inr ih

/-- what is made -/
def Gr.grown (g : Gr) (o : Op) : Gr := ⟨putIn Ino.id ltSt ⟨o.stamp, o.kind, 1, 0, o.data⟩ g.n, putIn Ent.pl ltPl ⟨o.at_, o.name, o.stamp⟩ g.e⟩
theorem Gr.Ok.does_make (h : g.Ok) {o : Op} (hk : o.kind = 1 ∨ o.kind = 2 ∨ o.kind = 3) (hm : opMay o = true) (hw : g.makesWhy o = 0) : g.does o = g.grown o ∧ (g.grown o).Ok := by
  obtain ⟨hd, hl, hn, hlen⟩ := Gr.makesWhy_zero hw
  obtain ⟨hs, hs0⟩ := opMay_stamp hm
  obtain ⟨hname, _⟩ := opMay_make hm hk
  have hno := Gr.get_none hn
  have hmk : makesOf o.kind = o.kind := by
    unfold makesOf
    rcases hk with hk | hk | hk <;> rw [hk] <;> rfl
  have h1 : g.make o.stamp (makesOf o.kind) = ⟨putIn Ino.id ltSt ⟨o.stamp, o.kind, 0, 0, ⟨#[]⟩⟩ g.n, g.e⟩ := by
    rw [hmk]
    unfold Gr.make
    have : g.makeWhy o.stamp o.kind = 0 := by
      unfold Gr.makeWhy
      rw [hs, hn]
      have e1 : decide (o.kind < 1) = false := by simp; omega
      have e2 : decide (3 < o.kind) = false := by simp; omega
      rw [e1, e2]
      simp
      omega
    rw [if_pos this]; rfl
  have hok1 := h.makeD o.stamp (makesOf o.kind)
  have h2 : (g.make o.stamp (makesOf o.kind)).setIf o.stamp 0 o.data = ⟨putIn Ino.id ltSt ⟨o.stamp, o.kind, 0, 0, o.data⟩ g.n, g.e⟩ := by
    rw [h1]
    unfold Gr.setIf Gr.setWhy
    have : ((⟨putIn Ino.id ltSt ⟨o.stamp, o.kind, 0, 0, ⟨#[]⟩⟩ g.n, g.e⟩ : Gr).get o.stamp).isSome = true := Gr.isSome_iff.2 ⟨_, putIn_mem.2 (.inl rfl), rfl⟩
    rw [this]
    simp only [if_true]
    unfold Gr.set
    have := upd_put (f := setTo 0 o.data) (fun _ => rfl) (i := ⟨o.stamp, o.kind, 0, 0, ⟨#[]⟩⟩) (l := g.n) (e := g.e) hno
    simp only at this
    rw [this]; rfl
  have hok2 := hok1.setIf o.stamp 0 o.data
  have h3 : g.does o = ((g.make o.stamp (makesOf o.kind)).setIf o.stamp 0 o.data).tie ⟨o.at_, o.name, o.stamp⟩ := by
    unfold Gr.does; rw [if_pos hk]
  rw [h2] at h3 hok2
  have hG : ∀ k, (⟨putIn Ino.id ltSt ⟨o.stamp, o.kind, 0, 0, o.data⟩ g.n, g.e⟩ : Gr).get k = if k = o.stamp then some ⟨o.stamp, o.kind, 0, 0, o.data⟩ else g.get k := by
    intro k
    by_cases hk' : k = o.stamp
    · rw [if_pos hk']
      exact hok2.get_iff.2 ⟨putIn_mem.2 (.inl rfl), hk'.symm⟩
    · rw [if_neg hk']
      apply Option.ext
      intro i
      rw [hok2.get_iff, h.get_iff]
      show i ∈ putIn _ _ _ _ ∧ _ ↔ _
      rw [putIn_mem]
      constructor
      · rintro ⟨rfl | hi, hid⟩
        · exact absurd hid.symm hk'
        · exact ⟨hi, hid⟩
      · rintro ⟨hi, hid⟩; exact ⟨.inr hi, hid⟩
  have hat : o.at_ ≠ o.stamp := by
    intro he
    obtain ⟨i, hi, _⟩ := Gr.isDir_iff.1 hd
    rw [he, hn] at hi; cases hi
  have hwhy : (⟨putIn Ino.id ltSt ⟨o.stamp, o.kind, 0, 0, o.data⟩ g.n, g.e⟩ : Gr).tieWhy ⟨o.at_, o.name, o.stamp⟩ = 0 := by
    generalize hg1 : (⟨putIn Ino.id ltSt ⟨o.stamp, o.kind, 0, 0, o.data⟩ g.n, g.e⟩ : Gr) = g1 at *
    have hgot : g1.got o.stamp = ⟨o.stamp, o.kind, 0, 0, o.data⟩ := Gr.got_of (by rw [hG, if_pos rfl])
    have hgat : g1.get o.at_ = g.get o.at_ := by rw [hG, if_neg hat]
    obtain ⟨i, hi, hik⟩ := Gr.isDir_iff.1 hd
    have hu : g1.under o.at_ o.stamp = false := by
      rw [Bool.eq_false_iff]
      intro hu
      rcases Gr.under_src (Gr.under_iff.1 hu) with h5 | ⟨x, hx, hxa⟩
      · exact hat h5
      · have hx' : x ∈ g.e := by rw [← hg1] at hx; exact hx
        have := (h.ends x hx').1
        obtain ⟨j, hj, _⟩ := Gr.isDir_iff.1 this
        rw [hxa, hn] at hj; cases hj
    have hlook : g1.look ⟨o.at_, o.name⟩ = none := by rw [← hg1]; exact hl
    unfold Gr.tieWhy
    simp only [Ent.pl]
    rw [hname, hgat, hi, show (g1.get o.stamp).isSome = true by rw [hG, if_pos rfl]; rfl, show g1.got o.at_ = i from Gr.got_of (by rw [hgat, hi]), hik, hlook, hgot, hu]
    have : decide (o.stamp = ⟨0, 0⟩) = false := by simpa using hs0
    rw [this]
    unfold roomB
    simp
  have h4 : g.does o = g.grown o := by
    rw [h3]
    unfold Gr.tie
    rw [if_pos hwhy]
    unfold Gr.tied Gr.grown
    have := upd_put (f := moreLinks 1) (fun _ => rfl) (i := ⟨o.stamp, o.kind, 0, 0, o.data⟩) (l := g.n) (e := g.e) hno
    simp only at this
    rw [this]; rfl
  exact ⟨h4, by rw [← h4]; exact h.does o⟩
end
end Go.Proofs.YtfbjiaedfmdcfaaGreatDoor

/-! ## OpMk -/
namespace Go.Proofs.YtfbjiaedfmdcfaaGreatDoor

section
variable {g : Gr}
theorem opWhy_zero {o : Op} (h : g.opWhy o = 0) : opMay o = true ∧ g.kindWhy o = 0 := by
  refine ⟨opWhy_may h, ?_⟩
  unfold Gr.opWhy at h
  rwa [opWhy_may h, if_pos rfl] at h
theorem kindWhy_make {o : Op} (hk : o.kind = 1 ∨ o.kind = 2 ∨ o.kind = 3) : g.kindWhy o = g.makesWhy o := by unfold Gr.kindWhy; rw [if_pos hk]
theorem kindWhy_link {o : Op} (hk : o.kind = 4) : g.kindWhy o = g.linksWhy o := by unfold Gr.kindWhy; simp [hk]
theorem kindWhy_unlink {o : Op} (hk : o.kind = 5) : g.kindWhy o = g.unlinksWhy o := by unfold Gr.kindWhy; simp [hk]
theorem kindWhy_rmdir {o : Op} (hk : o.kind = 6) : g.kindWhy o = g.rmdirsWhy o := by unfold Gr.kindWhy; simp [hk]
theorem kindWhy_rename {o : Op} (hk : o.kind = 7) : g.kindWhy o = g.renamesWhy o := by unfold Gr.kindWhy; simp [hk]
theorem kindWhy_data {o : Op} (hk : o.kind = 8 ∨ o.kind = 9) : g.kindWhy o = g.dataWhy o := by unfold Gr.kindWhy; rcases hk with hk | hk <;> simp [hk]
theorem kindWhy_attr {o : Op} (hk : o.kind = 10) : g.kindWhy o = g.attrWhy o := by unfold Gr.kindWhy; simp [hk]
theorem apply_zero {o : Op} (h : g.opWhy o = 0) : g.apply o = g.does o := by unfold Gr.apply; rw [if_pos h]
theorem apply_err {o : Op} (h : g.opWhy o ≠ 0) : g.apply o = g := by unfold Gr.apply; rw [if_neg h]

/-- a link that can be -/
theorem Gr.Ok.does_link (_ : g.Ok) {o : Op} (hk : o.kind = 4) (hm : opMay o = true) (hw : g.linksWhy o = 0) : g.does o = g.tied ⟨o.at_, o.name, o.ino⟩ := by
  obtain ⟨hi, hd, hnd, hl, hlk⟩ := Gr.linksWhy_zero hw
  have hname := opMay_link hm (.inl hk)
  have h3 : g.does o = g.tie ⟨o.at_, o.name, o.ino⟩ := by unfold Gr.does; simp [hk]
  rw [h3]
  unfold Gr.tie
  rw [if_pos]
  unfold Gr.tieWhy
  simp only [Ent.pl]
  obtain ⟨j, hj, hjk⟩ := Gr.isDir_iff.1 hd
  have hk1 : (g.got o.ino).kind ≠ 1 := hnd
  rw [hname, hi, hj, Gr.got_of hj, hjk, hl]
  have : ((g.got o.ino).kind == 1) = false := beq_eq_false_iff_ne.2 hk1
  rw [this]
  unfold roomB
  rw [if_neg hk1]
  simp [hlk]

/-- an entry, and its inode -/
theorem Gr.Ok.entry (h : g.Ok) {p : Pl} {id : St} (hl : g.look p = some id) : (g.get id).isSome = true ∧ id ≠ ⟨0, 0⟩ ∧ 1 ≤ (g.got id).links ∧ (g.isDir id = true → (g.got id).links = 1) ∧ g.isDir p.at_ = true := by
  obtain ⟨x, hx, hp, rfl⟩ := Gr.look_some hl
  have h1 := h.ends x hx
  obtain ⟨h2, h3, h4⟩ := h.got_links h1.2.1
  have h5 : 0 < g.count x.ino := by
    unfold Gr.count
    exact List.length_pos_of_mem (List.mem_filter.2 ⟨hx, by simp⟩)
  refine ⟨h1.2.1, h1.2.2, by omega, fun hd => ?_, by rw [← hp]; exact h1.1⟩
  have := h.dir_one hd
  omega
theorem Gr.got_untied (g : Gr) (p : Pl) (id k : St) (hs : (g.get k).isSome = true) : (g.untied p id).got k = if k = id then moreLinks (-1) (g.got k) else g.got k := by
  have := Gr.get_upd g (g.e.filter fun x => decide (x.pl ≠ p)) id (moreLinks (-1)) (fun _ => rfl) k
  obtain ⟨i, hi⟩ := Option.isSome_iff_exists.1 hs
  rw [hi] at this
  unfold Gr.untied
  by_cases hk : k = id
  · rw [if_pos hk] at this ⊢
    rw [Gr.got_of this, Gr.got_of hi]
  · rw [if_neg hk] at this ⊢
    rw [Gr.got_of this, Gr.got_of hi]
/-- an entry that goes, and its inode if that was the last one -/
theorem Gr.Ok.gone_is (h : g.Ok) {p : Pl} {id : St} (hl : g.look p = some id) (he : g.isDir id = true → g.list id = []) :
    g.gone p = if (g.got id).links = 1 then (g.untied p id).dropped id else g.untied p id := by
  obtain ⟨hs, h0, h1, hd1, _⟩ := h.entry hl
  unfold Gr.gone
  rw [hl]
  simp only
  have hu : g.untie p = g.untied p id := by unfold Gr.untie; rw [hl]
  rw [hu, Gr.got_untied g p id id hs, if_pos rfl]
  have e : (moreLinks (-1) (g.got id)).links = (g.got id).links + -1 := rfl
  rw [e]
  by_cases hc : (g.got id).links = 1
  · rw [if_pos (by omega), if_pos hc]
    unfold Gr.drop
    rw [if_pos]
    unfold Gr.dropWhy
    have hs2 : ((g.untied p id).get id).isSome = true := (Gr.some_upd g _ id (moreLinks (-1)) (fun _ => rfl) id).trans hs
    have hlist : (g.untied p id).list id = [] := by
      unfold Gr.list Gr.untied
      rw [List.filter_eq_nil_iff]
      intro x hx
      have hx' := (List.mem_filter.1 hx).1
      simp only [decide_eq_true_eq]
      intro ha
      have hd := (h.ends x hx').1
      rw [ha] at hd
      have := he hd
      unfold Gr.list at this
      rw [List.filter_eq_nil_iff] at this
      exact this x hx' (by simpa using ha)
    rw [hs2, hlist, Gr.got_untied g p id id hs, if_pos rfl, e, hc, if_neg (by simp), if_neg h0, if_neg (by simp)]
  · rw [if_neg (by omega), if_neg hc]
theorem Gr.look_untied (h : g.Ok) {p q : Pl} {id : St} (hl : g.look p = some id) : (g.untied p id).look q = if q = p then none else g.look q := by
  have hok := h.untie hl
  apply Option.ext
  intro k
  rw [hok.look_iff]
  by_cases hq : q = p
  · rw [if_pos hq]
    constructor
    · rintro ⟨x, hx, hxp, _⟩
      have := (List.mem_filter.1 hx).2
      simp only [ne_eq, decide_eq_true_eq] at this
      exact absurd (hxp.trans hq) this
    · intro hh; cases hh
  · rw [if_neg hq, h.look_iff]
    constructor
    · rintro ⟨x, hx, hxp, hk⟩; exact ⟨x, (List.mem_filter.1 hx).1, hxp, hk⟩
    · rintro ⟨x, hx, hxp, hk⟩
      exact ⟨x, List.mem_filter.2 ⟨hx, by simp only [ne_eq, decide_eq_true_eq]; rw [hxp]; exact hq⟩, hxp, hk⟩
end
end Go.Proofs.YtfbjiaedfmdcfaaGreatDoor

/-! ## ExtLaw -/
namespace Go.Proofs.YtfbjiaedfmdcfaaGreatDoor
open Go.RowKit

end Go.Proofs.YtfbjiaedfmdcfaaGreatDoor

/-! ## OpMv -/
namespace Go.Proofs.YtfbjiaedfmdcfaaGreatDoor

theorem Gr.under_mono {g g' : Gr} (hp : ∀ a p, g'.parent a = some p → g.parent a = some p) {d a : St} (h : g'.Under d a) : g.Under d a := by
  induction h with
  | here => exact .here
  | step h1 _ ih => exact .step (hp _ _ h1) ih
section
variable {g : Gr}
theorem Gr.Ok.parent_untied (h : g.Ok) {p : Pl} {id : St} (_ : g.look p = some id) {a q : St} (hq : (g.untied p id).parent a = some q) : g.parent a = some q := by
  obtain ⟨hd, x, hx, hxa, hxq⟩ := Gr.parent_some hq
  have hd' := Gr.isDir_upd g (g.e.filter fun x => decide (x.pl ≠ p)) id (moreLinks (-1)) (fun _ => rfl) (fun _ => rfl) a
  exact h.parent_iff.2 ⟨hd'.symm.trans hd, x, (List.mem_filter.1 hx).1, hxa, hxq⟩
theorem Gr.Ok.parent_dropped (h : g.Ok) (id : St) {a q : St} (hq : (g.dropped id).parent a = some q) : g.parent a = some q := by
  obtain ⟨hd, x, hx, hxa, hxq⟩ := Gr.parent_some hq
  refine h.parent_iff.2 ⟨?_, x, hx, hxa, hxq⟩
  obtain ⟨i, hi, hk⟩ := Gr.isDir_iff.1 hd
  rw [Gr.get_dropped] at hi
  split at hi
  · cases hi
  · exact Gr.isDir_iff.2 ⟨i, hi, hk⟩

/-- an entry that becomes another one -/
theorem Gr.Ok.retie (h : g.Ok) {src : Pl} {ino to : St} {new : ByteArray} (hl : g.look src = some ino) (hto : g.isDir to = true) (hdst : g.look ⟨to, new⟩ = none) (hname : nameOk new = true)
    (hu : g.isDir ino = true → ¬ g.Under ino to) : ((g.untie src).tie ⟨to, new, ino⟩) = (g.untied src ino).tied ⟨to, new, ino⟩ ∧ (g.untied src ino).tieWhy ⟨to, new, ino⟩ = 0 := by
  obtain ⟨hs, h0, h1, hd1, _⟩ := h.entry hl
  have hok := h.untie hl
  have hun : g.untie src = g.untied src ino := by unfold Gr.untie; rw [hl]
  have hwhy : (g.untied src ino).tieWhy ⟨to, new, ino⟩ = 0 := by
    have hd' : ∀ k, (g.untied src ino).isDir k = g.isDir k := Gr.isDir_upd g (g.e.filter fun x => decide (x.pl ≠ src)) ino (moreLinks (-1)) (fun _ => rfl) (fun _ => rfl)
    have hs' : ∀ k, ((g.untied src ino).get k).isSome = (g.get k).isSome := Gr.some_upd g (g.e.filter fun x => decide (x.pl ≠ src)) ino (moreLinks (-1)) (fun _ => rfl)
    obtain ⟨i, hi, hik⟩ := Gr.isDir_iff.1 ((hd' to).trans hto)
    have hlook : (g.untied src ino).look ⟨to, new⟩ = none := by
      rw [Gr.look_untied h hl]; split
      · rfl
      · exact hdst
    have hgot := Gr.got_untied g src ino ino hs
    rw [if_pos rfl] at hgot
    unfold Gr.tieWhy
    simp only [Ent.pl]
    rw [hname, hi, Gr.got_of hi, hik, hs', hs, hlook, hgot]
    have hc : ((moreLinks (-1) (g.got ino)).kind == 1 && (decide (ino = ⟨0, 0⟩) || (g.untied src ino).under to ino)) = false := by
      rw [show decide (ino = ⟨0, 0⟩) = false by simpa using h0, Bool.false_or]
      cases hk : ((moreLinks (-1) (g.got ino)).kind == 1) with
      | false => rfl
      | true =>
        have hk1 : g.kindOf' ino = 1 := (by simpa [moreLinks] using hk : (g.got ino).kind = 1)
        rw [Bool.true_and, Bool.eq_false_iff]
        intro hu2
        exact hu (Gr.dir_iff.2 hk1) (Gr.under_mono (fun a p hq => h.parent_untied hl hq) (Gr.under_iff.1 hu2))
    rw [hc]
    have hroom : roomB (moreLinks (-1) (g.got ino)) = true := by
      unfold roomB
      by_cases hk : (moreLinks (-1) (g.got ino)).kind = 1
      · rw [if_pos hk]
        have := hd1 (Gr.dir_iff.2 hk)
        show ((g.got ino).links + -1 == 0) = true
        rw [this]; rfl
      · rw [if_neg hk]
        obtain ⟨_, _, hm⟩ := h.got_links hs
        have := h.most _ hm
        show decide ((g.got ino).links + -1 < 6) = true
        simp; omega
    rw [hroom]
    rfl
  refine ⟨?_, hwhy⟩
  rw [hun]; unfold Gr.tie; rw [if_pos hwhy]

theorem Gr.Ok.len_untied (h : g.Ok) {p : Pl} {id : St} (hl : g.look p = some id) : (g.untied p id).e.length + 1 = g.e.length := by
  obtain ⟨x, hx, rfl, _⟩ := Gr.look_some hl
  have h1 : (g.e.filter fun y => decide (y.pl = x.pl)).length = 1 := by
    have hm : x ∈ g.e.filter fun y => decide (y.pl = x.pl) := List.mem_filter.2 ⟨hx, by simp⟩
    have hr := h.se.filter (fun y => decide (y.pl = x.pl))
    match hl : g.e.filter (fun y => decide (y.pl = x.pl)) with
    | [] => rw [hl] at hm; cases hm
    | [z] => rw [hl]; rfl
    | z :: z' :: l =>
      rw [hl] at hr
      have e1 : z ∈ g.e.filter fun y => decide (y.pl = x.pl) := by rw [hl]; simp
      have e2 : z' ∈ g.e.filter fun y => decide (y.pl = x.pl) := by rw [hl]; simp
      have e1' : z.pl = x.pl := by simpa using (List.mem_filter.1 e1).2
      have e2' : z'.pl = x.pl := by simpa using (List.mem_filter.1 e2).2
      have := (List.pairwise_cons.1 hr).1 z' (by simp)
      rw [e1', e2'] at this
      exact absurd this (strictPl.irrefl _)
  have h2 := (List.filter_append_perm (fun y : Ent => decide (y.pl = x.pl)) g.e).length_eq
  rw [List.length_append, h1] at h2
  have e : (fun y : Ent => !decide (y.pl = x.pl)) = fun y => decide (y.pl ≠ x.pl) := by funext y; simp
  rw [e] at h2
  show (g.e.filter _).length + 1 = _
  omega

theorem more_less (i : Ino) : moreLinks 1 (moreLinks (-1) i) = i := by
  unfold moreLinks
  obtain ⟨a, b, c, d, e⟩ := i
  simp only [Ino.mk.injEq, and_true, true_and]
  omega

/-- behind a target that goes first -/
theorem Gr.Ok.gone_target (h : g.Ok) {o : Op} {t : St} (hl : g.look ⟨o.at_, o.name⟩ = some o.ino) (hto : g.isDir o.to = true) (hc : g.look ⟨o.to, o.new⟩ = some t) (htne : t ≠ o.ino)
    (hu : g.isDir o.ino = true → ¬ g.Under o.ino o.to) (hle : g.isDir t = true → g.list t = []) :
    ∃ g1, g.gone ⟨o.to, o.new⟩ = g1 ∧ g1.look ⟨o.at_, o.name⟩ = some o.ino ∧ g1.isDir o.to = true ∧ g1.look ⟨o.to, o.new⟩ = none ∧ (g1.isDir o.ino = true → ¬ g1.Under o.ino o.to) ∧ g1.get o.ino = g.get o.ino ∧ g1.e.length + 1 = g.e.length := by
  obtain ⟨ts, t0, t1, td1, _⟩ := h.entry hc
  have hgone := h.gone_is hc hle
  have htto : o.to ≠ t := by
    intro e
    obtain ⟨x, hx, hxp, hxi⟩ := Gr.look_some hc
    have hpar : g.parent t = some t := h.parent_iff.2 ⟨by rw [← e]; exact hto, x, hx, hxi, by rw [← e]; exact congrArg Pl.at_ hxp⟩
    obtain ⟨r, hr⟩ := h.ends_up
    exact absurd (hr _ _ hpar) (Nat.lt_irrefl _)
  refine ⟨_, rfl, ?_⟩
  have hne : (⟨o.at_, o.name⟩ : Pl) ≠ ⟨o.to, o.new⟩ := by
    intro e; rw [e, hc] at hl; exact htne (by simpa using hl)
  have l1 : (g.untied ⟨o.to, o.new⟩ t).look ⟨o.at_, o.name⟩ = some o.ino := by rw [Gr.look_untied h hc, if_neg hne]; exact hl
  have l2 : (g.untied ⟨o.to, o.new⟩ t).look ⟨o.to, o.new⟩ = none := by rw [Gr.look_untied h hc, if_pos rfl]
  have hd' : ∀ k, (g.untied ⟨o.to, o.new⟩ t).isDir k = g.isDir k := Gr.isDir_upd g (g.e.filter fun x => decide (x.pl ≠ ⟨o.to, o.new⟩)) t (moreLinks (-1)) (fun _ => rfl) (fun _ => rfl)
  have hgu : (g.untied ⟨o.to, o.new⟩ t).get o.ino = g.get o.ino := by
    have := Gr.get_upd g (g.e.filter fun x => decide (x.pl ≠ ⟨o.to, o.new⟩)) t (moreLinks (-1)) (fun _ => rfl) o.ino
    rw [if_neg (fun e => htne e.symm)] at this
    exact this
  have hlen := h.len_untied hc
  rw [hgone]
  split
  · refine ⟨l1, ?_, l2, ?_, ?_, hlen⟩
    · have : (((g.untied ⟨o.to, o.new⟩ t).dropped t).isDir o.to) = (g.untied ⟨o.to, o.new⟩ t).isDir o.to := by
        unfold Gr.isDir Gr.got; rw [Gr.get_dropped, if_neg htto]
      rw [this, hd']; exact hto
    · intro hd hu2
      have hd2 : g.isDir o.ino = true := by
        have : (((g.untied ⟨o.to, o.new⟩ t).dropped t).isDir o.ino) = (g.untied ⟨o.to, o.new⟩ t).isDir o.ino := by
          unfold Gr.isDir Gr.got; rw [Gr.get_dropped, if_neg (fun e => htne e.symm)]
        rw [this, hd'] at hd; exact hd
      exact hu hd2 (Gr.under_mono (fun a p hq => h.parent_untied hc ((h.untie hc).parent_dropped t hq)) hu2)
    · rw [Gr.get_dropped, if_neg (fun e => htne e.symm)]; exact hgu
  · refine ⟨l1, (hd' _).trans hto, l2, ?_, hgu, hlen⟩
    intro hd hu2
    exact hu ((hd' _).symm.trans hd) (Gr.under_mono (fun a p hq => h.parent_untied hc hq) hu2)

end
end Go.Proofs.YtfbjiaedfmdcfaaGreatDoor

/-! ## OpDt -/
namespace Go.Proofs.YtfbjiaedfmdcfaaGreatDoor

section
variable {g : Gr}
theorem setIf_some {id : St} {mode : Int} {data : ByteArray} (hs : (g.get id).isSome = true) : g.setIf id mode data = g.set id mode data := by
  unfold Gr.setIf Gr.setWhy; rw [hs]; rfl
/-- what data becomes -/
def Gr.newMode (g : Gr) (o : Op) : Int := if o.kind = 10 then o.off else (g.got o.ino).mode
def Gr.newData (g : Gr) (o : Op) : ByteArray := if o.kind = 8 then (writeF (g.got o.ino).data o.off o.data).1 else if o.kind = 9 then (truncF (g.got o.ino).data o.off).1 else (g.got o.ino).data
theorem data_is {o : Op} (hk : 8 ≤ o.kind) (hw : g.opWhy o = 0) : (g.get o.ino).isSome = true ∧ g.apply o = g.set o.ino (g.newMode o) (g.newData o) := by
  obtain ⟨hm, hkw⟩ := opWhy_zero hw
  have hkk := opMay_kind hm
  have hs : (g.get o.ino).isSome = true := by
    by_cases h10 : o.kind = 10
    · rw [kindWhy_attr h10] at hkw; exact Gr.attrWhy_zero hkw
    · rw [kindWhy_data (by omega)] at hkw; exact (Gr.dataWhy_zero hkw).1
  refine ⟨hs, ?_⟩
  rw [apply_zero hw]
  unfold Gr.does Gr.newMode Gr.newData
  have h3 : o.kind = 8 ∨ o.kind = 9 ∨ o.kind = 10 := by omega
  rcases h3 with h3 | h3 | h3 <;> simp [h3] <;> exact setIf_some hs

end
end Go.Proofs.YtfbjiaedfmdcfaaGreatDoor
