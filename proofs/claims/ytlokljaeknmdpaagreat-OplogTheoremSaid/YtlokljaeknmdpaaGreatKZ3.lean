/-
  Operations, plainly: which may be, why one can't be done to a graph, what it does; what is kept; no condition.
-/
import Derived.Test.YtlokljaeknmdpaaGreatKZ1
import Derived.Test.YtlokljaeknmdpaaGreatKZ2
/-! ## OpPl -/
namespace Go.Proofs.YtlokljaeknmdpaaGreat

structure Op where
  stamp : St
  kind : Int
  at_ : St
  ino : St
  to : St
  name : ByteArray
  new : ByteArray
  off : Int
  data : ByteArray
  deriving Inhabited, DecidableEq
def Op.cells (o : Op) : List Value := [.int .i64 o.stamp.t, .int .i64 o.stamp.r, .int .i64 o.kind, .int .i64 o.at_.t, .int .i64 o.at_.r, .int .i64 o.ino.t, .int .i64 o.ino.r, .int .i64 o.to.t, .int .i64 o.to.r, .string o.name, .string o.new, .int .i64 o.off, .string o.data]
def Op.v (o : Op) : Value := .agg #[.int .i64 o.stamp.t, .int .i64 o.stamp.r, .int .i64 o.kind, .int .i64 o.at_.t, .int .i64 o.at_.r, .int .i64 o.ino.t, .int .i64 o.ino.r, .int .i64 o.to.t, .int .i64 o.to.r, .string o.name, .string o.new, .int .i64 o.off, .string o.data]
theorem Op.one (o : Op) : ∀ u ∈ o.cells, u.oneCell' = true := by
  intro u hu
  simp only [Op.cells, List.mem_cons, List.not_mem_nil, or_false] at hu
  rcases hu with rfl | rfl | rfl | rfl | rfl | rfl | rfl | rfl | rfl | rfl | rfl | rfl | rfl <;> rfl

def Op.Small (o : Op) : Prop := o.name.size ≤ reachBytes ∧ o.new.size ≤ reachBytes ∧ o.data.size ≤ reachBytes

/-- the fields of a kind, as bits -/
def fieldsOf (k : Int) : Nat := if k = 1 then 9 else if k = 2 then 9 else if k = 3 then 73 else if k = 4 then 11 else if k = 5 then 11 else if k = 6 then 11 else if k = 7 then 31 else if k = 8 then 98 else if k = 9 then 34 else if k = 10 then 34 else 0
def hasNul (s : ByteArray) : Bool := s.data.toList.contains 0
def dataOk (o : Op) : Bool :=
  if o.kind = 3 then !(o.data.size == 0) && (decide (o.data.size ≤ 32) && !hasNul o.data)
  else if o.kind = 8 then decide (0 ≤ o.off) && (decide (o.off ≤ 64) && (!(o.data.size == 0) && decide (o.off + o.data.size ≤ 64)))
  else if o.kind = 9 then decide (0 ≤ o.off) && decide (o.off ≤ 64)
  else if o.kind = 10 then decide (0 ≤ o.off) && decide (o.off ≤ 4095)
  else true
def bitOk (f bit : Nat) (may none : Bool) : Bool := if f &&& bit ≠ 0 then may else none
def St.isZ (s : St) : Bool := decide (s = ⟨0, 0⟩)
def St.mayB (s : St) : Bool := YtlokljaeknmdpaaGreat.mayB s.t s.r
def rowsOk (o : Op) : Bool :=
  bitOk (fieldsOf o.kind) 1 o.at_.mayB o.at_.isZ && (bitOk (fieldsOf o.kind) 2 o.ino.mayB o.ino.isZ && (bitOk (fieldsOf o.kind) 4 o.to.mayB o.to.isZ &&
  (bitOk (fieldsOf o.kind) 8 (nameOk o.name) (o.name.size == 0) && (bitOk (fieldsOf o.kind) 16 (nameOk o.new) (o.new.size == 0) && (bitOk (fieldsOf o.kind) 32 true (decide (o.off = 0)) && bitOk (fieldsOf o.kind) 64 true (o.data.size == 0))))))
def opMay (o : Op) : Bool := rowsOk o && (!(fieldsOf o.kind == 0) && (o.stamp.mayB && (!o.stamp.isZ && dataOk o)))
def makesOf (k : Int) : Int := if k = 1 then 1 else if k = 2 then 2 else if k = 3 then 3 else 0

def firstOf : List Int → Int
  | [] => 0
  | a :: l => if a = 0 then firstOf l else a
def whenB (b : Bool) (e : Int) : Int := if b then e else 0

section
variable (g : Gr)
def Gr.kindOf' (id : St) : Int := (g.got id).kind
def Gr.dirWhy (id : St) : Int := firstOf [whenB (decide (g.kindOf' id = 0)) 3, whenB (!decide (g.kindOf' id = 1)) 6]
def Gr.placeWhy (o : Op) : Int := whenB (g.look ⟨o.at_, o.name⟩).isSome 4
def Gr.makesWhy (o : Op) : Int := firstOf [g.dirWhy o.at_, g.placeWhy o, whenB (g.get o.stamp).isSome 4, whenB (decide (40 ≤ g.n.length)) 13]
def Gr.linksWhy (o : Op) : Int := firstOf [whenB (!(g.get o.ino).isSome || !(g.get o.at_).isSome) 3, g.dirWhy o.at_, whenB (decide (g.kindOf' o.ino = 1)) 5, g.placeWhy o, whenB (decide (6 ≤ (g.got o.ino).links)) 12]
def Gr.entryWhy (o : Op) : Int := whenB (!decide (g.look ⟨o.at_, o.name⟩ = some o.ino)) 3
def Gr.unlinksWhy (o : Op) : Int := firstOf [g.entryWhy o, whenB (decide (g.kindOf' o.ino = 1)) 5]
def Gr.rmdirsWhy (o : Op) : Int := firstOf [g.entryWhy o, whenB (!decide (g.kindOf' o.ino = 1)) 6, whenB (decide (0 < (g.list o.ino).length)) 7]
noncomputable def Gr.insideWhy (o : Op) : Int := whenB (decide (g.kindOf' o.ino = 1) && g.under o.to o.ino) 8
noncomputable def Gr.renamesWhy (o : Op) : Int :=
  if firstOf [g.entryWhy o, g.dirWhy o.to] ≠ 0 then firstOf [g.entryWhy o, g.dirWhy o.to]
  else match g.look ⟨o.to, o.new⟩ with
    | none => g.insideWhy o
    | some t => if t = o.ino then 0 else
      firstOf [g.insideWhy o, whenB (decide (g.kindOf' t = 1) && !decide (g.kindOf' o.ino = 1)) 5, whenB (decide (g.kindOf' o.ino = 1) && !decide (g.kindOf' t = 1)) 6, whenB (decide (g.kindOf' t = 1) && decide (0 < (g.list t).length)) 7]
def Gr.attrWhy (o : Op) : Int := whenB (decide (g.kindOf' o.ino = 0)) 3
def Gr.dataWhy (o : Op) : Int := firstOf [g.attrWhy o, whenB (decide (g.kindOf' o.ino = 1)) 5, whenB (decide (g.kindOf' o.ino = 3)) 8]
noncomputable def Gr.kindWhy (o : Op) : Int :=
  if o.kind = 1 ∨ o.kind = 2 ∨ o.kind = 3 then g.makesWhy o else if o.kind = 4 then g.linksWhy o else if o.kind = 5 then g.unlinksWhy o else if o.kind = 6 then g.rmdirsWhy o
  else if o.kind = 7 then g.renamesWhy o else if o.kind = 8 ∨ o.kind = 9 then g.dataWhy o else if o.kind = 10 then g.attrWhy o else 0
noncomputable def Gr.opWhy (o : Op) : Int := if opMay o then g.kindWhy o else 1

def Gr.gone (p : Pl) : Gr :=
  match g.look p with
  | some id => if ((g.untie p).got id).links = 0 then (g.untie p).drop id else g.untie p
  | none => g
noncomputable def Gr.rename (o : Op) : Gr :=
  match g.look ⟨o.to, o.new⟩ with
  | some t => if t = o.ino then g else (((g.gone ⟨o.to, o.new⟩).untie ⟨o.at_, o.name⟩).tie ⟨o.to, o.new, o.ino⟩)
  | none => ((g.untie ⟨o.at_, o.name⟩).tie ⟨o.to, o.new, o.ino⟩)
def Gr.setIf (id : St) (mode : Int) (data : ByteArray) : Gr := if g.setWhy id = 0 then g.set id mode data else g
noncomputable def Gr.does (o : Op) : Gr :=
  if o.kind = 1 ∨ o.kind = 2 ∨ o.kind = 3 then (((g.make o.stamp (makesOf o.kind)).setIf o.stamp 0 o.data).tie ⟨o.at_, o.name, o.stamp⟩)
  else if o.kind = 4 then g.tie ⟨o.at_, o.name, o.ino⟩
  else if o.kind = 5 ∨ o.kind = 6 then g.gone ⟨o.at_, o.name⟩
  else if o.kind = 7 then g.rename o
  else if o.kind = 8 then g.setIf o.ino (g.got o.ino).mode (writeF (g.got o.ino).data o.off o.data).1
  else if o.kind = 9 then g.setIf o.ino (g.got o.ino).mode (truncF (g.got o.ino).data o.off).1
  else if o.kind = 10 then g.setIf o.ino o.off (g.got o.ino).data
  else g
noncomputable def Gr.apply (o : Op) : Gr := if g.opWhy o = 0 then g.does o else g
end
end Go.Proofs.YtlokljaeknmdpaaGreat
