/-
  Operations put in order, and folded, plainly; no condition. · The size that an inode's data may have; no condition. · Operations, plainly: what they make is fine, but for the audit's words; no condition. · What runes are bad in a text, by its bytes; no condition.
-/
import Derived.Test.YtfbjiaedfmdcfaaGreatDoorKY3
import Derived.Test.YtfbjiaedfmdcfaaGreatDoorKY0
import Derived.Test.YtfbjiaedfmdcfaaGreatDoorKY1
/-! ## FoldPl -/
namespace Go.Proofs.YtfbjiaedfmdcfaaGreatDoor

abbrev RisesO (l : List Op) : Prop := RisesK Op.stamp ltSt l
/-- may it be put? -/
def putB (l : List Op) (o : Op) : Bool := opMay o && !(l.any fun a => decide (a.stamp = o.stamp))
def putOp (l : List Op) (o : Op) : List Op := if putB l o then putIn Op.stamp ltSt o l else l
def placeOf (l : List Op) (o : Op) : Nat := if opMay o then (l.takeWhile fun a => decide (ltSt a.stamp o.stamp)).length else 0
def sortOps (l : List Op) : List Op := l.foldl putOp []
noncomputable def onOps (g : Gr) (l : List Op) : Gr := (sortOps l).foldl Gr.apply g
theorem putB_iff {l : List Op} {o : Op} : putB l o = true ↔ opMay o = true ∧ ∀ a ∈ l, a.stamp ≠ o.stamp := by
  unfold putB
  simp
theorem putOp_rises {l : List Op} (h : RisesO l) (o : Op) : RisesO (putOp l o) := by
  unfold putOp
  split
  · rename_i hb
    exact putIn_rises strictSt h (putB_iff.1 hb).2
  · exact h
theorem mem_putOp {l : List Op} {o x : Op} : x ∈ putOp l o ↔ x ∈ l ∨ (x = o ∧ putB l o = true) := by
  unfold putOp
  split
  · rename_i hb
    rw [putIn_mem]
    constructor
    · rintro (h | h)
      · exact .inr ⟨h, hb⟩
      · exact .inl h
    · rintro (h | ⟨h, _⟩)
      · exact .inr h
      · exact .inl h
  · rename_i hb
    exact ⟨.inl, fun h => h.elim id fun h => absurd h.2 hb⟩
theorem putOp_may {l : List Op} (h : ∀ a ∈ l, opMay a = true) (o : Op) : ∀ a ∈ putOp l o, opMay a = true := by
  intro a ha
  rcases mem_putOp.1 ha with ha | ⟨rfl, hb⟩
  · exact h a ha
  · exact (putB_iff.1 hb).1
theorem putOp_len (l : List Op) (o : Op) : (putOp l o).length = l.length + if putB l o then 1 else 0 := by
  unfold putOp
  split
  · rw [putIn_len]
  · rfl
theorem sort_snoc (l : List Op) (o : Op) : sortOps (l ++ [o]) = putOp (sortOps l) o := by unfold sortOps; rw [List.foldl_append]; rfl
theorem sort_step (l : List Op) (i : Nat) (hi : i < l.length) : sortOps (l.take (i + 1)) = putOp (sortOps (l.take i)) l[i]! := by
  rw [List.take_succ_eq_append_getElem hi, sort_snoc, getElem!_pos l i hi]
theorem fold_putOp : ∀ (l s : List Op), RisesO s → (∀ a ∈ s, opMay a = true) → RisesO (l.foldl putOp s) ∧ (∀ a ∈ l.foldl putOp s, opMay a = true) ∧ (l.foldl putOp s).length ≤ s.length + l.length
  | [], s, h1, h2 => ⟨h1, h2, Nat.le_refl _⟩
  | o :: l, s, h1, h2 => by
    obtain ⟨a, b, c⟩ := fold_putOp l (putOp s o) (putOp_rises h1 o) (putOp_may h2 o)
    refine ⟨a, b, ?_⟩
    have := putOp_len s o
    simp only [List.foldl_cons, List.length_cons]
    split at this <;> omega
theorem sort_rises (l : List Op) : RisesO (sortOps l) := (fold_putOp l [] List.Pairwise.nil (by simp)).1
theorem sort_len (l : List Op) : (sortOps l).length ≤ l.length := by
  have := (fold_putOp l [] List.Pairwise.nil (by simp)).2.2
  rw [List.length_nil, Nat.zero_add] at this
  exact this
theorem fold_mem_sub : ∀ (l s : List Op) (x : Op), x ∈ l.foldl putOp s → x ∈ s ∨ x ∈ l
  | [], s, x, h => .inl h
  | o :: l, s, x, h => by
    rcases fold_mem_sub l (putOp s o) x h with h | h
    · rcases mem_putOp.1 h with h | ⟨rfl, _⟩
      · exact .inl h
      · exact .inr List.mem_cons_self
    · exact .inr (List.mem_cons_of_mem _ h)
theorem sort_sub {l : List Op} {x : Op} (h : x ∈ sortOps l) : x ∈ l := by
  rcases fold_mem_sub l [] x h with h | h
  · cases h
  · exact h
/-! ### folding -/
theorem runs_ok : ∀ (l : List Op) {g : Gr}, g.Ok → (l.foldl Gr.apply g).Ok
  | [], _, h => h
  | o :: l, _, h => runs_ok l (h.apply o)
theorem runs_thin : ∀ (l : List Op) {g : Gr}, g.Thin → (l.foldl Gr.apply g).Thin
  | [], _, h => h
  | o :: l, _, h => runs_thin l (h.apply o)
noncomputable def ofOps (l : List Op) : Gr := ran (sortOps l)
theorem ofOps_ok (l : List Op) : (ofOps l).Ok := ran_ok _
theorem ofOps_thin (l : List Op) : (ofOps l).Thin := ran_thin _
theorem fold_step (g : Gr) (l : List Op) (i : Nat) (hi : i < l.length) : (l.take (i + 1)).foldl Gr.apply g = ((l.take i).foldl Gr.apply g).apply l[i]! := by
  rw [List.take_succ_eq_append_getElem hi, List.foldl_append, getElem!_pos l i hi]; rfl

/-! ### sorted -/
theorem risesO_at {l : List Op} (h : RisesO l) {i j : Nat} (hij : i < j) (hj : j < l.length) : ltSt l[i]!.stamp l[j]!.stamp := by
  have := List.pairwise_iff_getElem.1 h i j (by omega) hj hij
  rw [getElem!_pos l i (by omega), getElem!_pos l j hj]; exact this
theorem place_le (l : List Op) (o : Op) : placeOf l o ≤ l.length := by
  unfold placeOf
  split
  · exact (List.takeWhile_sublist _).length_le
  · exact Nat.zero_le _
/-! ### the same operations in any order -/
/-! ### the place -/
theorem takeWhile_take {α : Type} (p : α → Bool) : ∀ (l : List α), l.take (l.takeWhile p).length = l.takeWhile p ∧ l.drop (l.takeWhile p).length = l.dropWhile p
  | [] => ⟨rfl, rfl⟩
  | a :: l => by
    obtain ⟨h1, h2⟩ := takeWhile_take p l
    rw [List.takeWhile_cons, List.dropWhile_cons]
    split
    · exact ⟨by rw [List.length_cons, List.take_succ_cons, h1], by rw [List.length_cons, List.drop_succ_cons, h2]⟩
    · exact ⟨rfl, rfl⟩
theorem place_may {l : List Op} {o : Op} (hm : opMay o = true) : placeOf l o = (l.takeWhile fun a => decide (ltSt a.stamp o.stamp)).length := by unfold placeOf; rw [if_pos hm]
theorem place_low {l : List Op} {o : Op} (hm : opMay o = true) {i : Nat} (hi : i < placeOf l o) (hl : i < l.length) : ltSt l[i]!.stamp o.stamp := by
  rw [place_may hm] at hi
  have h1 := takeWhile_all (fun a : Op => decide (ltSt a.stamp o.stamp)) l ((l.takeWhile fun a => decide (ltSt a.stamp o.stamp))[i]) (List.getElem_mem hi)
  have h2 : (l.takeWhile fun a => decide (ltSt a.stamp o.stamp))[i] = l[i] := by
    have := (takeWhile_take (fun a : Op => decide (ltSt a.stamp o.stamp)) l).1
    have h3 : (l.takeWhile fun a => decide (ltSt a.stamp o.stamp))[i]? = l[i]? := by
      rw [← this, List.getElem?_take, if_pos hi]
    rw [List.getElem?_eq_getElem hi, List.getElem?_eq_getElem hl] at h3
    simpa using h3
  rw [h2] at h1
  rw [getElem!_pos l i hl]
  simpa using h1
theorem place_high {l : List Op} (h : RisesO l) {o : Op} (hm : opMay o = true) {i : Nat} (hi : placeOf l o ≤ i) (hl : i < l.length) : ¬ ltSt l[i]!.stamp o.stamp := by
  rw [place_may hm] at hi
  refine dropWhile_rises strictSt o.stamp h _ ?_
  rw [← (takeWhile_take (fun a : Op => decide (ltSt a.stamp o.stamp)) l).2, getElem!_pos l i hl]
  have h3 : (l.drop (l.takeWhile fun a => decide (ltSt a.stamp o.stamp)).length)[i - (l.takeWhile fun a => decide (ltSt a.stamp o.stamp)).length]? = l[i]? := by
    rw [List.getElem?_drop]; congr 1; omega
  rw [List.getElem?_eq_getElem hl] at h3
  exact List.mem_of_getElem? h3
theorem put_hit {l : List Op} (h : RisesO l) {o : Op} (hm : opMay o = true) : putB l o = !(decide (placeOf l o < l.length) && decide (l[placeOf l o]!.stamp = o.stamp)) := by
  rw [Bool.eq_iff_iff, putB_iff]
  simp only [hm, true_and, Bool.not_eq_true', Bool.and_eq_false_iff, decide_eq_false_iff_not]
  constructor
  · intro ha
    by_cases hl : placeOf l o < l.length
    · right
      rw [getElem!_pos l _ hl]
      exact ha _ (List.getElem_mem hl)
    · exact .inl hl
  · intro hh a ha he
    obtain ⟨i, hi, rfl⟩ := List.mem_iff_getElem.1 ha
    rw [← getElem!_pos l i hi] at he
    have h1 : ¬ i < placeOf l o := fun hlt => strictSt.irrefl _ (he ▸ place_low hm hlt hi)
    have h2 : ¬ placeOf l o < i := fun hlt => by
      have := risesO_at h hlt hi
      rw [he] at this
      exact place_high h hm (Nat.le_refl _) (by omega) this
    have e : i = placeOf l o := by omega
    rw [e] at he hi
    rcases hh with h3 | h3
    · exact h3 hi
    · exact h3 he
theorem put_is {l : List Op} {o : Op} (hb : putB l o = true) : putOp l o = l.take (placeOf l o) ++ o :: l.drop (placeOf l o) := by
  unfold putOp putIn
  rw [if_pos hb, place_may (putB_iff.1 hb).1, (takeWhile_take _ l).1, (takeWhile_take _ l).2]
theorem put_not {l : List Op} {o : Op} (hb : putB l o = false) : putOp l o = l := by unfold putOp; rw [hb]; rfl
end Go.Proofs.YtfbjiaedfmdcfaaGreatDoor

/-! ## SizeB -/
namespace Go.Proofs.YtfbjiaedfmdcfaaGreatDoor
def sizeB (x : Ino) : Bool := if x.kind = 1 then (x.data.size : Int) == 0 else if x.kind = 2 then decide ((x.data.size : Int) ≤ 64) else if x.kind = 3 then decide (1 ≤ (x.data.size : Int)) && decide ((x.data.size : Int) ≤ 32) else true
end Go.Proofs.YtfbjiaedfmdcfaaGreatDoor

/-! ## FinePl -/
namespace Go.Proofs.YtfbjiaedfmdcfaaGreatDoor

def NodeOk (i : Ino) : Prop := (i.id ≠ ⟨0, 0⟩ → 1 ≤ i.links) ∧ 0 ≤ i.mode ∧ i.mode ≤ 4095 ∧ sizeB i = true
structure Gr.Fine (g : Gr) : Prop where
  ok : g.Ok
  nodes : ∀ i ∈ g.n, NodeOk i

section
variable {g : Gr}
theorem Gr.Fine.new : Gr.new.Fine := ⟨Gr.Ok.new, fun i hi => by
  rw [List.mem_singleton.1 hi]
  exact ⟨fun h => absurd rfl h, by decide, by decide, rfl⟩⟩
theorem Gr.Fine.thin (h : g.Fine) : g.Thin := by
  intro i hi
  have h1 := (h.nodes i hi).2.2.2
  have h2 := h.ok.kinds i hi
  unfold sizeB at h1
  split at h1
  · simp only [beq_iff_eq] at h1; omega
  split at h1
  · simp only [decide_eq_true_eq] at h1; omega
  split at h1
  · simp only [Bool.and_eq_true, decide_eq_true_eq] at h1; omega
  · omega
theorem Gr.Fine.tied (h : g.Fine) (x : Ent) (hok : (g.tied x).Ok) : (g.tied x).Fine := by
  refine ⟨hok, fun j hj => ?_⟩
  obtain ⟨i, hi, rfl⟩ := mem_upd (g := g) hj
  have := h.nodes i hi
  split
  · exact ⟨fun hne => by have := this.1 hne; show 1 ≤ i.links + 1; omega, this.2⟩
  · exact this
theorem Gr.Fine.untie_tied (h : g.Fine) {p : Pl} {id : St} {x : Ent} (hx : x.ino = id) (hok : ((g.untied p id).tied x).Ok) : ((g.untied p id).tied x).Fine := by
  refine ⟨hok, ?_⟩
  have : ((g.untied p id).tied x).n = g.n := by
    unfold Gr.tied Gr.untied Gr.upd
    simp only [List.map_map]
    conv => rhs; rw [← List.map_id g.n]
    apply List.map_congr_left
    intro i _
    show _ = i
    simp only [Function.comp]
    by_cases hi : i.id = id
    · rw [if_pos hi]
      have e : (moreLinks (-1) i).id = x.ino := by rw [hx]; exact hi
      rw [if_pos e, more_less]
    · rw [if_neg hi, if_neg (by rw [hx]; exact hi)]
  rw [this]; exact h.nodes
theorem Gr.Fine.gone (h : g.Fine) {p : Pl} {id : St} (hl : g.look p = some id) (he : g.isDir id = true → g.list id = []) : (g.gone p).Fine := by
  refine ⟨h.ok.gone p, ?_⟩
  rw [h.ok.gone_is hl he]
  obtain ⟨hs, h0, h1, hd1, _⟩ := h.ok.entry hl
  obtain ⟨_, hgi, hgm⟩ := h.ok.got_links hs
  have hself : ∀ i ∈ g.n, i.id = id → i = g.got id := fun i hi he => RisesK.apart strictSt h.ok.sn hi hgm (he.trans hgi.symm)
  split
  · rename_i hc
    intro j hj
    obtain ⟨hj, hne⟩ := List.mem_filter.1 hj
    obtain ⟨i, hi, rfl⟩ := mem_upd (g := g) hj
    have := h.nodes i hi
    split
    · rename_i hid
      rw [if_pos hid] at hne
      have hne2 : (moreLinks (-1) i).id ≠ id := of_decide_eq_true hne
      exact absurd hid hne2
    · exact this
  · rename_i hc
    intro j hj
    obtain ⟨i, hi, rfl⟩ := mem_upd (g := g) hj
    have := h.nodes i hi
    split
    · rename_i hid
      have e := hself i hi hid
      refine ⟨fun hne => ?_, this.2⟩
      show 1 ≤ i.links + -1
      rw [e]; omega
    · exact this
theorem Gr.Fine.set (h : g.Fine) {id : St} {mode : Int} {data : ByteArray} (h0 : 0 ≤ mode) (h1 : mode ≤ 4095) (hz : ∀ i ∈ g.n, i.id = id → sizeB (setTo mode data i) = true) : (g.set id mode data).Fine := by
  refine ⟨h.ok.set _ _ _, fun j hj => ?_⟩
  obtain ⟨i, hi, rfl⟩ := mem_upd (g := g) hj
  have := h.nodes i hi
  split
  · rename_i hid
    exact ⟨this.1, h0, h1, hz i hi hid⟩
  · exact this
theorem Gr.Fine.rename (h : g.Fine) {o : Op} (hk : o.kind = 7) (hw : g.opWhy o = 0) : (g.apply o).Fine := by
  have hokA := h.ok.apply o
  obtain ⟨hm, hkw⟩ := opWhy_zero hw
  rw [kindWhy_rename hk] at hkw
  obtain ⟨hname, hnew⟩ := opMay_rename hm hk
  obtain ⟨hl, hto, hc⟩ := Gr.renamesWhy_zero hkw
  have hdo : g.apply o = g.rename o := by
    rw [apply_zero hw]; unfold Gr.does; simp [hk]
  rw [hdo] at hokA ⊢
  rcases hc with hc | ⟨hc, hu⟩ | ⟨t, hc, htne, hu, hdd, hle⟩
  · have : g.rename o = g := by unfold Gr.rename; rw [hc]; simp
    rw [this]; exact h
  · obtain ⟨e1, _⟩ := h.ok.retie hl hto hc hnew hu
    have : g.rename o = (g.untied ⟨o.at_, o.name⟩ o.ino).tied ⟨o.to, o.new, o.ino⟩ := by unfold Gr.rename; rw [hc]; simp only; rw [e1]
    rw [this] at hokA ⊢
    exact h.untie_tied rfl hokA
  · have hg := h.gone hc hle
    have hokg := h.ok.gone ⟨o.to, o.new⟩
    obtain ⟨g1, hg1, q1, q2, q3, q4, q5, q6⟩ := h.ok.gone_target hl hto hc htne hu hle
    rw [hg1] at hokg hg
    obtain ⟨e1, _⟩ := hokg.retie q1 q2 q3 hnew q4
    have : g.rename o = (g1.untied ⟨o.at_, o.name⟩ o.ino).tied ⟨o.to, o.new, o.ino⟩ := by unfold Gr.rename; rw [hc]; simp only; rw [if_neg htne, hg1, e1]
    rw [this] at hokA ⊢
    exact hg.untie_tied rfl hokA
theorem Gr.Fine.apply (h : g.Fine) (o : Op) : (g.apply o).Fine := by
  by_cases hw : g.opWhy o = 0
  · obtain ⟨hm, hkw⟩ := opWhy_zero hw
    have hkk := opMay_kind hm
    by_cases hk : o.kind = 1 ∨ o.kind = 2 ∨ o.kind = 3
    · rw [kindWhy_make hk] at hkw
      obtain ⟨hdo, hok⟩ := h.ok.does_make hk hm hkw
      rw [apply_zero hw, hdo]
      refine ⟨hok, fun i hi => ?_⟩
      rcases (putIn_mem (key := Ino.id) (lt := ltSt) (x := (⟨o.stamp, o.kind, 1, 0, o.data⟩ : Ino))).1 hi with rfl | hi
      · obtain ⟨_, d1, d2, d3⟩ := opMay_make hm hk
        refine ⟨fun _ => by show (1 : Int) ≤ 1; decide, by show (0 : Int) ≤ 0; decide, by show (0 : Int) ≤ 4095; decide, ?_⟩
        unfold sizeB
        rcases hk with hk | hk | hk
        · simp [hk, d1 hk]
        · simp [hk, d2 hk]
        · have := d3 hk
          simp [hk]; omega
      · exact h.nodes i hi
    · by_cases h4 : o.kind = 4
      · rw [kindWhy_link h4] at hkw
        have := h.ok.does_link h4 hm hkw
        have hok := h.ok.apply o
        rw [apply_zero hw, this] at hok ⊢
        exact h.tied _ hok
      · by_cases h56 : o.kind = 5 ∨ o.kind = 6
        · have hdo : g.apply o = g.gone ⟨o.at_, o.name⟩ := by
            rw [apply_zero hw]
            unfold Gr.does
            rw [if_neg (by omega), if_neg (by omega), if_pos h56]
          rw [hdo]
          rcases h56 with h5 | h6
          · rw [kindWhy_unlink h5] at hkw
            obtain ⟨h1, h2⟩ := Gr.unlinksWhy_zero hkw
            exact h.gone h1 fun hd => absurd (Gr.dir_iff.1 hd) h2
          · rw [kindWhy_rmdir h6] at hkw
            obtain ⟨h1, h2, h3⟩ := Gr.rmdirsWhy_zero hkw
            exact h.gone h1 fun _ => h3
        · by_cases h7 : o.kind = 7
          · exact h.rename h7 hw
          · have hk8 : 8 ≤ o.kind := by omega
            obtain ⟨hs, hset⟩ := data_is hk8 hw
            rw [hset]
            obtain ⟨_, hgi, hgm⟩ := h.ok.got_links hs
            have hself : ∀ i ∈ g.n, i.id = o.ino → i = g.got o.ino := fun i hi he => RisesK.apart strictSt h.ok.sn hi hgm (he.trans hgi.symm)
            have hgn := h.nodes _ hgm
            have hkd := h.ok.kinds _ hgm
            have hth := h.thin.got o.ino
            have h3 : (o.kind = 8 ∨ o.kind = 9) ∨ o.kind = 10 := by omega
            rcases h3 with h3 | h3
            · rw [kindWhy_data h3] at hkw
              obtain ⟨_, n1, n3⟩ := Gr.dataWhy_zero hkw
              have hk2 : (g.got o.ino).kind = 2 := by
                have a1 : (g.got o.ino).kind ≠ 1 := n1
                have a3 : (g.got o.ino).kind ≠ 3 := n3
                omega
              have hm0 : g.newMode o = (g.got o.ino).mode := by unfold Gr.newMode; rw [if_neg (by omega)]
              have hd0 : (g.newData o).size ≤ 64 := by
                unfold Gr.newData
                rcases h3 with h3 | h3
                · rw [if_pos h3]; exact writeF_size _ _ _ hth
                · rw [if_neg (by omega), if_pos h3]; exact truncF_size _ _ hth
              refine h.set (by rw [hm0]; exact hgn.2.1) (by rw [hm0]; exact hgn.2.2.1) fun i hi he => ?_
              rw [hself i hi he]
              have e1 : (setTo (g.newMode o) (g.newData o) (g.got o.ino)).kind = 2 := hk2
              have e2 : (setTo (g.newMode o) (g.newData o) (g.got o.ino)).data = g.newData o := rfl
              unfold sizeB
              rw [e1, e2]
              simp; omega
            · obtain ⟨m1, m2⟩ := opMay_attr hm h3
              have hm0 : g.newMode o = o.off := by unfold Gr.newMode; rw [if_pos h3]
              have hd0 : g.newData o = (g.got o.ino).data := by unfold Gr.newData; rw [if_neg (by omega), if_neg (by omega)]
              refine h.set (by rw [hm0]; exact m1) (by rw [hm0]; exact m2) fun i hi he => ?_
              rw [hself i hi he, hd0]
              exact hgn.2.2.2
  · rw [apply_err hw]; exact h
theorem ran_fine (l : List Op) : (ran l).Fine := by
  have : ∀ (l : List Op) (g : Gr), g.Fine → (l.foldl Gr.apply g).Fine := by
    intro l
    induction l with
    | nil => intro g h; exact h
    | cons d l ih => intro g h; exact ih _ (h.apply d)
  exact this l _ Gr.Fine.new
end
end Go.Proofs.YtfbjiaedfmdcfaaGreatDoor

/-! ## Runes -/
namespace Go.Proofs.YtfbjiaedfmdcfaaGreatDoor

def byteAt (s : ByteArray) (j : Nat) : Nat := (s.get! j).toNat
def badAt (s : ByteArray) (j : Nat) : Prop := byteAt s j = 47 ∨ byteAt s j = 0
theorem decode_low (s : ByteArray) (i : Nat) (h : byteAt s i < 128) : Utf8.decode s i = (byteAt s i, 1) := by
  unfold byteAt at *
  simp only [Utf8.decode, Nat.add_zero]
  rw [if_pos h]
theorem decode_high (s : ByteArray) (i : Nat) (h : ¬ byteAt s i < 128) : badRune (Utf8.decode s i).1 = false ∧ ∀ k, 1 ≤ k → k < (Utf8.decode s i).2 → byteAt s (i + k) / 64 = 2 := by
  have hb : ∀ r : Nat, 128 ≤ r → badRune r = false := fun r hr => by
    unfold badRune
    rw [beq_eq_false_iff_ne.2 (show r ≠ 47 by omega), beq_eq_false_iff_ne.2 (show r ≠ 0 by omega)]
    rfl
  have he : badRune Utf8.runeError = false := by decide
  unfold byteAt at *
  simp only [Utf8.decode, Nat.add_zero]
  rw [if_neg h]
  split
  · rename_i h1
    simp only [Bool.and_eq_true, beq_iff_eq, decide_eq_true_eq] at h1
    split
    · refine ⟨hb _ (by omega), fun k h2 h3 => ?_⟩
      obtain rfl : k = 1 := by omega
      exact h1.2.2
    · exact ⟨he, fun k h2 h3 => by omega⟩
  · split
    · rename_i h1
      simp only [Bool.and_eq_true, beq_iff_eq, decide_eq_true_eq] at h1
      split
      · rename_i h4
        simp only [Bool.and_eq_true, decide_eq_true_eq] at h4
        refine ⟨hb _ (by omega), fun k h2 h3 => ?_⟩
        have h5 : k = 1 ∨ k = 2 := by omega
        rcases h5 with rfl | rfl
        · exact h1.1.2.2
        · exact h1.2.2
      · exact ⟨he, fun k h2 h3 => by omega⟩
    · split
      · rename_i h1
        simp only [Bool.and_eq_true, beq_iff_eq, decide_eq_true_eq] at h1
        split
        · rename_i h4
          simp only [Bool.and_eq_true, decide_eq_true_eq] at h4
          refine ⟨hb _ (by omega), fun k h2 h3 => ?_⟩
          have h5 : k = 1 ∨ k = 2 ∨ k = 3 := by omega
          rcases h5 with rfl | rfl | rfl
          · exact h1.1.1.2.2
          · exact h1.1.2.2
          · exact h1.2.2
        · exact ⟨he, fun k h2 h3 => by omega⟩
      · exact ⟨he, fun k h2 h3 => by omega⟩
theorem badFrom_iff (s : ByteArray) : ∀ (n pos : Nat), s.size < pos + n → (badFrom s n pos = true ↔ ∃ j, pos ≤ j ∧ j < s.size ∧ badAt s j)
  | 0, pos, h => by
    unfold badFrom
    constructor
    · intro h'; cases h'
    · rintro ⟨j, h1, h2, _⟩; omega
  | n + 1, pos, h => by
    unfold badFrom
    by_cases hp : pos < s.size
    · rw [if_pos hp, Bool.or_eq_true, badFrom_iff s n _ (by have := decode_pos s pos; omega)]
      by_cases hl : byteAt s pos < 128
      · rw [decode_low s pos hl]
        constructor
        · rintro (h1 | ⟨j, h1, h2, h3⟩)
          · refine ⟨pos, Nat.le_refl _, hp, ?_⟩
            unfold badRune at h1
            simpa [badAt] using h1
          · exact ⟨j, by omega, h2, h3⟩
        · rintro ⟨j, h1, h2, h3⟩
          by_cases hj : j = pos
          · subst hj
            left
            unfold badRune
            simpa [badAt] using h3
          · exact .inr ⟨j, by show pos + 1 ≤ j; omega, h2, h3⟩
      · obtain ⟨h4, h5⟩ := decode_high s pos hl
        rw [h4]
        constructor
        · rintro (h1 | ⟨j, h1, h2, h3⟩)
          · cases h1
          · exact ⟨j, by omega, h2, h3⟩
        · rintro ⟨j, h1, h2, h3⟩
          refine .inr ⟨j, ?_, h2, h3⟩
          rcases Nat.lt_or_ge j (pos + (Utf8.decode s pos).2) with h6 | h6
          · exfalso
            unfold badAt at h3
            by_cases hj : j = pos
            · subst hj; omega
            · have h7 := h5 (j - pos) (by omega) (by omega)
              rw [show pos + (j - pos) = j by omega] at h7
              omega
          · exact h6
    · rw [if_neg hp]
      constructor
      · intro h'; cases h'
      · rintro ⟨j, h1, h2, _⟩; omega
def hasByte (s : ByteArray) (c : Int) : Bool := s.data.toList.any fun b => decide ((b.toNat : Int) = c)
theorem hasByte_iff (s : ByteArray) (c : Nat) : hasByte s (c : Int) = true ↔ ∃ j, j < s.size ∧ byteAt s j = c := by
  unfold hasByte byteAt
  rw [List.any_eq_true]
  constructor
  · rintro ⟨b, hb, h⟩
    obtain ⟨j, hj, e⟩ := Array.getElem_of_mem (Array.mem_toList_iff.1 hb)
    refine ⟨j, hj, ?_⟩
    have h' : s.get! j = b := by
      have : s.get! j = s.data[j]! := rfl
      rw [this, getElem!_pos s.data j hj, e]
    rw [h']
    have := of_decide_eq_true h
    omega
  · rintro ⟨j, hj, e⟩
    have h' : s.get! j = s.data[j]'hj := by
      have : s.get! j = s.data[j]! := rfl
      rw [this, getElem!_pos s.data j hj]
    refine ⟨s.data[j]'hj, Array.mem_toList_iff.2 (Array.getElem_mem hj), decide_eq_true ?_⟩
    rw [← h', e]
theorem bad_bytes (s : ByteArray) : hasBad s = (hasByte s 47 || hasByte s 0) := by
  rw [Bool.eq_iff_iff, Bool.or_eq_true]
  unfold hasBad
  have h47 : hasByte s 47 = true ↔ ∃ j, j < s.size ∧ byteAt s j = 47 := hasByte_iff s 47
  have h00 : hasByte s 0 = true ↔ ∃ j, j < s.size ∧ byteAt s j = 0 := hasByte_iff s 0
  rw [badFrom_iff s _ 0 (by omega), h47, h00]
  unfold badAt
  constructor
  · rintro ⟨j, _, h2, h3 | h3⟩
    · exact .inl ⟨j, h2, h3⟩
    · exact .inr ⟨j, h2, h3⟩
  · rintro (⟨j, h2, h3⟩ | ⟨j, h2, h3⟩)
    · exact ⟨j, Nat.zero_le _, h2, .inl h3⟩
    · exact ⟨j, Nat.zero_le _, h2, .inr h3⟩
end Go.Proofs.YtfbjiaedfmdcfaaGreatDoor
