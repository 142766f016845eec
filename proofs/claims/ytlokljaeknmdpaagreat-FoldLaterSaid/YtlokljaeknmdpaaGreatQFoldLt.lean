/-
  What a mode, and another inode's data, leave as it was, plainly: graphs without modes and without the others' data; no condition.
-/
import Derived.Test.YtlokljaeknmdpaaGreatKFold
namespace Go.Proofs.YtlokljaeknmdpaaGreat

/-- an inode without its mode, and without its data unless it is k -/
def stripI (k : St) (i : Ino) : Ino := { i with mode := 0, data := if i.id = k then i.data else ⟨#[]⟩ }
def Gr.strip (g : Gr) (k : St) : Gr := ⟨g.n.map (stripI k), g.e⟩
section
variable (g : Gr) (k : St)
theorem stripI_idem (i : Ino) : stripI k (stripI k i) = stripI k i := by
  unfold stripI
  by_cases h : i.id = k <;> simp [h]
theorem strip_idem : (g.strip k).strip k = g.strip k := by
  unfold Gr.strip
  simp only [List.map_map]
  congr 1
  exact List.map_congr_left fun i _ => stripI_idem k i
theorem stripI_zero : stripI k zeroI = zeroI := by
  unfold stripI zeroI
  simp only
  split <;> rfl
theorem get_strip (j : St) : (g.strip k).get j = (g.get j).map (stripI k) := by
  unfold Gr.get Gr.strip
  simp only
  rw [List.find?_map]
  rfl
theorem some_strip (j : St) : ((g.strip k).get j).isSome = (g.get j).isSome := by rw [get_strip]; cases g.get j <;> rfl
theorem got_strip (j : St) : (g.strip k).got j = stripI k (g.got j) := by
  unfold Gr.got
  rw [get_strip]
  cases g.get j with
  | none => exact (stripI_zero k).symm
  | some i => rfl
theorem kind_strip (j : St) : ((g.strip k).got j).kind = (g.got j).kind := by rw [got_strip]; rfl
theorem links_strip (j : St) : ((g.strip k).got j).links = (g.got j).links := by rw [got_strip]; rfl
theorem room_strip (j : St) : roomB ((g.strip k).got j) = roomB (g.got j) := by rw [got_strip]; rfl
theorem len_strip : (g.strip k).n.length = g.n.length := List.length_map _
theorem look_strip (p : Pl) : (g.strip k).look p = g.look p := rfl
theorem list_strip (j : St) : (g.strip k).list j = g.list j := rfl
theorem dir_strip (j : St) : (g.strip k).isDir j = g.isDir j := by unfold Gr.isDir; rw [some_strip, kind_strip]
theorem parent_strip (j : St) : (g.strip k).parent j = g.parent j := by unfold Gr.parent; rw [dir_strip]; rfl
theorem under_strip (a d : St) : (g.strip k).under a d = g.under a d := by
  rw [Bool.eq_iff_iff, Gr.under_iff, Gr.under_iff]
  constructor
  · intro h
    induction h with
    | here => exact .here
    | step hp _ ih => exact .step (by rw [← hp, parent_strip]) ih
  · intro h
    induction h with
    | here => exact .here
    | step hp _ ih => exact .step (by rw [parent_strip, hp]) ih
theorem upd_strip (j : St) (f : Ino → Ino) (hf : ∀ i, stripI k (f i) = f (stripI k i)) : (g.upd j f).map (stripI k) = (g.strip k).upd j f := by
  unfold Gr.upd Gr.strip
  simp only [List.map_map]
  refine List.map_congr_left fun i _ => ?_
  simp only [Function.comp]
  by_cases h : i.id = j
  · rw [if_pos h, if_pos (show (stripI k i).id = j from h), hf]
  · rw [if_neg h, if_neg (show ¬ (stripI k i).id = j from h)]
theorem more_strip (n : Int) (i : Ino) : stripI k (moreLinks n i) = moreLinks n (stripI k i) := rfl
theorem putIn_strip (x : Ino) (l : List Ino) : (putIn Ino.id ltSt x l).map (stripI k) = putIn Ino.id ltSt (stripI k x) (l.map (stripI k)) := by
  unfold putIn
  rw [List.map_append, List.map_cons, List.takeWhile_map, List.dropWhile_map]
  rfl
theorem make_strip (id : St) (kind : Int) : (g.make id kind).strip k = (g.strip k).make id kind := by
  have hw : (g.strip k).makeWhy id kind = g.makeWhy id kind := by unfold Gr.makeWhy; rw [some_strip, len_strip]
  unfold Gr.make
  rw [hw]
  split
  · unfold Gr.made Gr.strip
    simp only
    rw [putIn_strip]
    congr 2
    unfold stripI
    simp only
    split <;> rfl
  · rfl
theorem tieWhy_strip (x : Ent) : (g.strip k).tieWhy x = g.tieWhy x := by
  unfold Gr.tieWhy
  rw [some_strip, some_strip, kind_strip, kind_strip, look_strip, under_strip, room_strip]
theorem tie_strip (x : Ent) : (g.tie x).strip k = (g.strip k).tie x := by
  unfold Gr.tie
  rw [tieWhy_strip]
  split
  · unfold Gr.tied Gr.strip
    simp only
    rw [upd_strip g k x.ino (moreLinks 1) (more_strip k 1)]
    rfl
  · rfl
theorem untied_strip (p : Pl) (id : St) : (g.untied p id).strip k = (g.strip k).untied p id := by
  unfold Gr.untied Gr.strip
  simp only
  rw [upd_strip g k id (moreLinks (-1)) (more_strip k (-1))]
  rfl
theorem untie_strip (p : Pl) : (g.untie p).strip k = (g.strip k).untie p := by
  unfold Gr.untie
  rw [look_strip]
  cases g.look p with
  | none => rfl
  | some id => exact untied_strip g k p id
theorem drop_strip (id : St) : (g.drop id).strip k = (g.strip k).drop id := by
  have hw : (g.strip k).dropWhy id = g.dropWhy id := by unfold Gr.dropWhy; rw [some_strip, links_strip, list_strip]
  unfold Gr.drop
  rw [hw]
  split
  · unfold Gr.dropped Gr.strip
    simp only
    rw [List.filter_map]
    rfl
  · rfl
theorem gone_strip (p : Pl) : (g.gone p).strip k = (g.strip k).gone p := by
  unfold Gr.gone
  rw [look_strip]
  cases g.look p with
  | none => rfl
  | some id =>
    simp only
    rw [← untie_strip, links_strip]
    split
    · rw [drop_strip]
    · rfl
theorem rename_strip (o : Op) : (g.rename o).strip k = (g.strip k).rename o := by
  unfold Gr.rename
  rw [look_strip]
  cases g.look ⟨o.to, o.new⟩ with
  | none => simp only; rw [tie_strip, untie_strip]
  | some t =>
    simp only
    split
    · rfl
    · rw [tie_strip, untie_strip, gone_strip]
theorem setWhy_strip (id : St) : (g.strip k).setWhy id = g.setWhy id := by unfold Gr.setWhy; rw [some_strip]
/-- other inodes' modes and data go -/
theorem set_other {id : St} (hne : id ≠ k) (m : Int) (d : ByteArray) : (g.setIf id m d).strip k = g.strip k := by
  unfold Gr.setIf
  split
  · unfold Gr.set Gr.upd Gr.strip
    simp only [List.map_map]
    congr 1
    refine List.map_congr_left fun i _ => ?_
    simp only [Function.comp]
    by_cases h : i.id = id
    · rw [if_pos h]
      unfold stripI setTo
      simp only
      rw [if_neg (by rw [h]; exact hne), if_neg (by rw [h]; exact hne)]
    · rw [if_neg h]
  · rfl
/-- its own data stay, whatever its mode -/
theorem set_own (m m' : Int) (d : ByteArray) : (g.setIf k m d).strip k = ((g.strip k).setIf k m' d).strip k := by
  unfold Gr.setIf
  rw [setWhy_strip]
  split
  · unfold Gr.set Gr.upd Gr.strip
    simp only [List.map_map]
    congr 1
    refine List.map_congr_left fun i _ => ?_
    simp only [Function.comp]
    by_cases h : i.id = k
    · rw [if_pos h, if_pos (show (stripI k i).id = k from h)]
      unfold stripI setTo
      simp only [h]
    · rw [if_neg h, if_neg (show ¬ (stripI k i).id = k from h), stripI_idem]
  · exact (strip_idem g k).symm
theorem set_any (id : St) (m m' : Int) (d : ByteArray) : (g.setIf id m d).strip k = ((g.strip k).setIf id m' d).strip k := by
  by_cases h : id = k
  · subst h; exact set_own g id m m' d
  · rw [set_other g k h, set_other (g.strip k) k h, strip_idem]
theorem data_strip : ((g.strip k).got k).data = (g.got k).data := by
  rw [got_strip]
  unfold Gr.got
  cases hg : g.get k with
  | none => rw [show (none : Option Ino).getD zeroI = zeroI from rfl, stripI_zero]
  | some i =>
    have := (Gr.get_some hg).2
    show (stripI k i).data = i.data
    unfold stripI
    simp [this]
/-- data that are made out of an inode's own -/
theorem set_from (id : St) (f : ByteArray → ByteArray) : (g.setIf id (g.got id).mode (f (g.got id).data)).strip k = ((g.strip k).setIf id ((g.strip k).got id).mode (f ((g.strip k).got id).data)).strip k := by
  by_cases h : id = k
  · subst h; rw [data_strip]; exact set_own g id _ _ _
  · rw [set_other g k h, set_other (g.strip k) k h, strip_idem]
theorem set_from' (id : St) (m : Int) : (g.setIf id m (g.got id).data).strip k = ((g.strip k).setIf id m ((g.strip k).got id).data).strip k := by
  by_cases h : id = k
  · subst h; rw [data_strip]; exact set_own g id _ _ _
  · rw [set_other g k h, set_other (g.strip k) k h, strip_idem]
theorem opWhy_strip (o : Op) : (g.strip k).opWhy o = g.opWhy o := by
  have hk : ∀ j, (g.strip k).kindOf' j = g.kindOf' j := fun j => kind_strip g k j
  have hd : ∀ j, (g.strip k).dirWhy j = g.dirWhy j := fun j => by unfold Gr.dirWhy; rw [hk]
  have hp : (g.strip k).placeWhy o = g.placeWhy o := rfl
  have he : (g.strip k).entryWhy o = g.entryWhy o := rfl
  have hi : (g.strip k).insideWhy o = g.insideWhy o := by unfold Gr.insideWhy; rw [hk, under_strip]
  have ha : (g.strip k).attrWhy o = g.attrWhy o := by unfold Gr.attrWhy; rw [hk]
  unfold Gr.opWhy Gr.kindWhy Gr.makesWhy Gr.linksWhy Gr.unlinksWhy Gr.rmdirsWhy Gr.renamesWhy Gr.dataWhy
  simp only [hk, hd, hp, he, hi, ha, some_strip, len_strip, links_strip, look_strip, list_strip]
  rfl
theorem does_strip (o : Op) : (g.does o).strip k = ((g.strip k).does o).strip k := by
  unfold Gr.does
  split
  · rw [tie_strip, tie_strip, set_any (g.make o.stamp (makesOf o.kind)) k o.stamp 0 0 o.data, make_strip]
  split
  · rw [tie_strip, tie_strip, strip_idem]
  split
  · rw [gone_strip, gone_strip, strip_idem]
  split
  · rw [rename_strip, rename_strip, strip_idem]
  split
  · exact set_from g k o.ino fun d => (writeF d o.off o.data).1
  split
  · exact set_from g k o.ino fun d => (truncF d o.off).1
  split
  · exact set_from' g k o.ino o.off
  · exact (strip_idem g k).symm
theorem apply_strip (o : Op) : (g.apply o).strip k = ((g.strip k).apply o).strip k := by
  unfold Gr.apply
  rw [opWhy_strip]
  split
  · exact does_strip g k o
  · exact (strip_idem g k).symm
end
theorem runs_strip (k : St) : ∀ (l : List Op) (a b : Gr), a.strip k = b.strip k → (l.foldl Gr.apply a).strip k = (l.foldl Gr.apply b).strip k
  | [], _, _, h => h
  | o :: l, a, b, h => runs_strip k l _ _ (by rw [apply_strip a k o, apply_strip b k o, h])
/-- a mode of k -/
theorem quiet_mode {g : Gr} (h : g.Ok) {o : Op} (hk : o.kind = 10) : (g.apply o).strip o.ino = g.strip o.ino := by
  unfold Gr.apply
  split
  · unfold Gr.does
    rw [if_neg (by omega), if_neg (by omega), if_neg (by omega), if_neg (by omega), if_neg (by omega), if_neg (by omega), if_pos hk]
    unfold Gr.setIf
    split
    · unfold Gr.set Gr.upd Gr.strip
      simp only [List.map_map]
      congr 1
      refine List.map_congr_left fun i hi => ?_
      simp only [Function.comp]
      by_cases he : i.id = o.ino
      · rw [if_pos he]
        have hg : g.got o.ino = i := Gr.got_of (h.get_iff.2 ⟨hi, he⟩)
        rw [hg]
        rfl
      · rw [if_neg he]
    · rfl
  · rfl
/-- data of another one -/
theorem quiet_data {g : Gr} {x : Op} {k : St} (hk : x.kind = 8) (hne : x.ino ≠ k) : (g.apply x).strip k = g.strip k := by
  unfold Gr.apply
  split
  · unfold Gr.does
    rw [if_neg (by omega), if_neg (by omega), if_neg (by omega), if_neg (by omega), if_pos hk]
    exact set_other g k hne _ _
  · rfl
theorem quiet_in {k : St} {p : Op} (hq : ∀ g : Gr, g.Ok → (g.apply p).strip k = g.strip k) (a b : List Op) : (ran (a ++ p :: b)).strip k = (ran (a ++ b)).strip k := by
  unfold ran
  rw [List.foldl_append, List.foldl_append, List.foldl_cons]
  exact runs_strip k b _ _ (hq _ (runs_ok a Gr.Ok.new))
theorem quiet_put {k : St} {p : Op} (hq : ∀ g : Gr, g.Ok → (g.apply p).strip k = g.strip k) (l : List Op) : (ran (putOp l p)).strip k = (ran l).strip k := by
  cases hb : putB l p with
  | false => rw [put_not hb]
  | true =>
    rw [put_is hb, quiet_in hq, List.take_append_drop]
/-- a mode of one inode and data of another one, put anywhere -/
theorem later_law (l : List Op) {o x : Op} (ho : o.kind = 10) (hx : x.kind = 8) (hne : o.ino ≠ x.ino) :
    (ofOps (putOp (putOp (sortOps l) o) x)).e = (ofOps l).e ∧ (ofOps (putOp (putOp (sortOps l) o) x)).n.length = (ofOps l).n.length ∧
      ((ofOps (putOp (putOp (sortOps l) o) x)).got o.ino).data = ((ofOps l).got o.ino).data ∧ ((ofOps (putOp (putOp (sortOps l) o) x)).got o.ino).links = ((ofOps l).got o.ino).links := by
  have hs : (ofOps (putOp (putOp (sortOps l) o) x)).strip o.ino = (ofOps l).strip o.ino := by
    unfold ofOps
    rw [sort_sorted (putOp_rises (putOp_rises (sort_rises l) o) x) (putOp_may (putOp_may (sort_may l) o) x)]
    rw [quiet_put (fun g _ => quiet_data hx hne.symm), quiet_put (fun g h => quiet_mode h ho)]
  generalize ofOps (putOp (putOp (sortOps l) o) x) = a at hs ⊢
  generalize ofOps l = b at hs ⊢
  refine ⟨?_, ?_, ?_, ?_⟩
  · show (a.strip o.ino).e = (b.strip o.ino).e
    rw [hs]
  · rw [← len_strip a o.ino, hs, len_strip]
  · rw [← data_strip a o.ino, hs, data_strip]
  · rw [← links_strip a o.ino, hs, links_strip]
end Go.Proofs.YtlokljaeknmdpaaGreat
