/-
  The audit's order, shape, lost, count, many, bounds; condition: at most 1000 of each, and names no longer than a string may be.
-/
import Derived.Test.YtmnkaohhjhjciaaAudE
namespace Go.Proofs.Ytmnkaohhjhjciaa
open Go.RowKit Go.Shelf

instance : Inhabited {x : Ent // x.name.size ≤ maxLen} := ⟨⟨⟨⟨0, 0⟩, ⟨#[]⟩, ⟨0, 0⟩⟩, by decide⟩⟩

/-- the names of a list's entries are no longer than a string may be -/
theorem SlAt.named {w : World} {v : Value} {zs : List Ent} (h : SlAt w 5 Ent.cells v zs) (hn : ∀ x ∈ zs, x.name.size ≤ maxLen) :
    SlAt w 5 (fun x : {x : Ent // x.name.size ≤ maxLen} => x.1.cells) v (zs.pmap Subtype.mk hn) := by
  rcases h with ⟨a', c', rfl, rfl⟩ | ⟨b, off, c, rfl, h1, h2, h3, h4⟩
  · exact .inl ⟨a', c', rfl, rfl⟩
  · refine .inr ⟨b, off, c, by simp, by simpa using h1, h2, h3, fun j hj i u hu => h4 j (by simpa using hj) i u ?_⟩
    have hj' : j < zs.length := by simpa using hj
    have e1 : (zs.pmap Subtype.mk hn)[j]! = ⟨zs[j], hn _ (List.getElem_mem _)⟩ := by
      rw [getElem!_pos _ j hj]; simp
    have e2 : zs[j]! = zs[j] := getElem!_pos _ j hj'
    rw [e1] at hu
    rw [e2]; exact hu

theorem any_named : ∀ (zs : List Ent) (hn : ∀ x ∈ zs, x.name.size ≤ maxLen), (zs.pmap Subtype.mk hn).any (fun x : {x : Ent // x.name.size ≤ maxLen} => !nameOk x.1.name) = zs.any fun x => !nameOk x.name
  | [], _ => rfl
  | a :: l, hn => by
    simp only [List.pmap_cons, List.any_cons]
    rw [any_named l]
theorem containsName (v : Value) (zs : List Ent) (w : World) (h : SlAt w 5 Ent.cells v zs) (hn : ∀ x ∈ zs, x.name.size ≤ maxLen) (hz : zs.length ≤ 1000) :
    Calls Try.prog 105 #[v, .func (.func 106) #[] #[]] w fun e w' => e = .returned (.bool (zs.any fun x => !nameOk x.name)) ∧ Below w.heap.size w w' := by
  rcases h.named hn with ⟨a', c', rfl, h0⟩ | ⟨b, off, c, rfl, _, _, hb, hc⟩
  · have : zs = [] := by
      cases zs with
      | nil => rfl
      | cons a l => simp at h0
    subst this
    exact noContEnt _ _ _ w
  · have := AnyQ.slices_ContainsFunc lHasEnt 5 Try.isAgg33 Try.sizeOf33 (fun x : {x : Ent // x.name.size ≤ maxLen} => x.1.cells) (fun _ => rfl) (fun x => !nameOk x.1.name) 106 #[] (enters_of Try.func106 (by kernel_rfl) rfl) b off (zs.pmap Subtype.mk hn).length c (zs.pmap Subtype.mk hn) w
      (fun W x hb => (shape2_any x.1 x.2 W).mono fun e w' ⟨h1, h2⟩ => ⟨h1, hb.trans (h2.mono hb.size)⟩) (Nat.le_refl _) (by simp; omega) hb hc
    rw [List.take_length] at this
    rw [any_named zs hn] at this
    exact this

/-- a box for the graph -/
theorem boxed (w : World) (vn ve : Value) (kb lb : Nat) : GBox (w.alloc (.cells #[vn, ve, .map (some kb), .map (some lb)] 83)) w.heap.size (.agg #[vn, ve, .map (some kb), .map (some lb)]) :=
  ⟨vn, ve, kb, lb, rfl, cell_new w _ rfl _ _ 0 _ rfl, cell_new w _ rfl _ _ 1 _ rfl, cell_new w _ rfl _ _ 2 _ rfl, cell_new w _ rfl _ _ 3 _ rfl, by simp⟩

def orderB (n : List Ino) (e : List Ent) : Bool := risesBy cmpIno n && risesBy cmpEnt e
def shapeB (n : List Ino) (e : List Ent) : Bool := decide (kindOf n ⟨0, 0⟩ = some 1) && (!n.any badI && !e.any fun x => !nameOk x.name)


set_option maxRecDepth 100000 in
set_option maxHeartbeats 1000000 in
theorem order_any (g : Value) (n : List Ino) (e : List Ent) (w : World) (h : AuditAt w g n e) (h1 : n.length ≤ 1000) (h2 : e.length ≤ 1000) :
    Calls Try.prog 71 #[g] w fun x w' => x = .returned (.bool (orderB n e)) ∧ Below w.heap.size w w' := by
  have hA := h
  obtain ⟨vn, ve, kb, lb, kk, kl, rfl, hn, he, _, _, _, _, _, _⟩ := h.ex
  have hb0 : Below w.heap.size w (w.alloc (.cells #[vn, ve, .map (some kb), .map (some lb)] 83)) := (Below.refl _ w).alloc (Nat.le_refl _) _
  have hbox := boxed w vn ve kb lb
  have hA1 := hA.below hb0
  have hn1 := risesIno_any vn n _ (hn.below hb0) h1
  have HE : Hid (∀ W, Below w.heap.size w W → Calls Try.prog 101 #[ve, .func (.func 102) #[] #[]] W fun e' w' => e' = .returned (.bool (risesBy cmpEnt e)) ∧ Below W.heap.size W w') := Lib.hid fun W hW => risesEnt_any ve e W (he.below hW) h2
  clear hn he hA h hA1 hbox
  unfold orderB
  generalize risesBy cmpEnt e = y at HE
  have HB0 := Lib.hid hb0
  clear hb0
  cases hk : risesBy cmpIno n with
  | false =>
    rw [hk] at hn1
    go_enter Try.func71, Try.ntmps71
    go_wp2_with (go_at_call 99; refine (hn1).mono ?_; rintro x w' ⟨rfl, hN⟩; have HB := Lib.hid (after1 hN).2; clear hN)
    go_ret
    exact ⟨rfl, HB.out⟩
  | true =>
    rw [hk] at hn1
    go_enter Try.func71, Try.ntmps71
    go_wp2_with (first
      | (go_at_call 99; refine (hn1).mono ?_; rintro x w' ⟨rfl, hN⟩; have HB := Lib.hid (after1 hN).2; have c0 : w'.cell? ⟨w.heap.size, 0, none⟩ = some vn := (after1 hN).1 0 _ rfl; have c1 : w'.cell? ⟨w.heap.size, 1, none⟩ = some ve := (after1 hN).1 1 _ rfl; clear hN)
      | (go_at_call 101; refine (HE.out _ HB.out).mono ?_; rintro x w'' ⟨rfl, hN⟩; have HB2 := Lib.hid hN; clear hN))
    go_ret
    exact ⟨rfl, HB.out.trans (HB2.out.mono HB.out.size)⟩

set_option maxRecDepth 100000 in
set_option maxHeartbeats 1000000 in
theorem shape_any (g : Value) (n : List Ino) (e : List Ent) (w : World) (h : AuditAt w g n e) (h1 : n.length ≤ 1000) (h2 : e.length ≤ 1000) (hnm : ∀ x ∈ e, x.name.size ≤ maxLen) :
    Calls Try.prog 72 #[g] w fun x w' => x = .returned (.bool (shapeB n e)) ∧ Below w.heap.size w w' := by
  have hA := h
  obtain ⟨vn, ve, kb, lb, kk, kl, rfl, hn, he, _, _, _, _, _, _⟩ := h.ex
  have hb0 : Below w.heap.size w (w.alloc (.cells #[vn, ve, .map (some kb), .map (some lb)] 83)) := (Below.refl _ w).alloc (Nat.le_refl _) _
  have hbox := boxed w vn ve kb lb
  have hA1 := hA.below hb0
  have hd := directory_any _ n e ⟨0, 0⟩ _ hA1
  have HI : Hid (∀ W, Below w.heap.size w W → Calls Try.prog 103 #[vn, .func (.func 104) #[] #[]] W fun e' w' => e' = .returned (.bool (n.any badI)) ∧ Below W.heap.size W w') := Lib.hid fun W hW => containsIno badI _ #[] (enters_of Try.func104 (by kernel_rfl) rfl) vn n W (hn.below hW) h1 (fun W x _ => shape1_any x W)
  have HE : Hid (∀ W, Below w.heap.size w W → Calls Try.prog 105 #[ve, .func (.func 106) #[] #[]] W fun e' w' => e' = .returned (.bool (e.any fun x => !nameOk x.name)) ∧ Below W.heap.size W w') := Lib.hid fun W hW => containsName ve e W (he.below hW) hnm h2
  clear hn he hA h hA1 hbox
  unfold shapeB
  generalize n.any badI = y at HI
  generalize (e.any fun x => !nameOk x.name) = z at HE
  have HB0 := Lib.hid hb0
  clear hb0
  change Calls Try.prog 80 #[_, .agg #[.int .i64 0, .int .i64 0]] _ _ at hd
  cases hk : decide (kindOf n ⟨0, 0⟩ = some 1) with
  | false =>
    rw [hk] at hd
    go_enter Try.func72, Try.ntmps72
    go_wp2_with (go_at_call 80; refine (hd).mono ?_; rintro x w' ⟨rfl, hN⟩; have HB := Lib.hid (after1 hN).2; clear hN)
    go_ret
    exact ⟨rfl, HB.out⟩
  | true =>
    rw [hk] at hd
    cases y with
    | true =>
      go_enter Try.func72, Try.ntmps72
      go_wp2_with (first
        | (go_at_call 80; refine (hd).mono ?_; rintro x w' ⟨rfl, hN⟩; have HB := Lib.hid (after1 hN).2; have c0 : w'.cell? ⟨w.heap.size, 0, none⟩ = some vn := (after1 hN).1 0 _ rfl; have c1 : w'.cell? ⟨w.heap.size, 1, none⟩ = some ve := (after1 hN).1 1 _ rfl; clear hN)
        | (go_at_call 103; refine (HI.out _ HB.out).mono ?_; rintro x w'' ⟨rfl, hN⟩; have HB2 := Lib.hid (HB.out.trans (hN.mono HB.out.size)); clear hN))
      go_ret
      exact ⟨rfl, HB2.out⟩
    | false =>
      go_enter Try.func72, Try.ntmps72
      go_wp2_with (first
        | (go_at_call 80; refine (hd).mono ?_; rintro x w' ⟨rfl, hN⟩; have HB := Lib.hid (after1 hN).2; have c0 : w'.cell? ⟨w.heap.size, 0, none⟩ = some vn := (after1 hN).1 0 _ rfl; have c1 : w'.cell? ⟨w.heap.size, 1, none⟩ = some ve := (after1 hN).1 1 _ rfl; have HS : Hid (w.heap.size < w'.heap.size) := Lib.hid (by have := hN.size; simp only [World.size_alloc] at this; omega); clear hN)
        | (go_at_call 103; refine (HI.out _ HB.out).mono ?_; rintro x w'' ⟨rfl, hN⟩; have HB2 := Lib.hid (HB.out.trans (hN.mono HB.out.size)); have c1' : w''.cell? ⟨w.heap.size, 1, none⟩ = some ve := (hN.cell (p := ⟨w.heap.size, 1, none⟩) HS.out).trans c1; clear hN)
        | (go_at_call 105; refine (HE.out _ HB2.out).mono ?_; rintro x w3 ⟨rfl, hN⟩; have HB3 := Lib.hid (HB2.out.trans (hN.mono HB2.out.size)); clear hN))
      go_ret
      exact ⟨rfl, HB3.out⟩

set_option maxRecDepth 100000 in
set_option maxHeartbeats 1000000 in
theorem lost_any (g : Value) (n : List Ino) (e : List Ent) (w : World) (h : AuditAt w g n e) (hz : e.length ≤ 1000) :
    Calls Try.prog 73 #[g] w fun x w' => x = .returned (.bool (!e.any (lostB n))) ∧ Below w.heap.size w w' := by
  have hA := h
  obtain ⟨vn, ve, kb, lb, kk, kl, rfl, hn, he, _, _, _, _, _, _⟩ := h.ex
  have hb0 : Below w.heap.size w (w.alloc (.cells #[vn, ve, .map (some kb), .map (some lb)] 83)) := (Below.refl _ w).alloc (Nat.le_refl _) _
  have hbox := boxed w vn ve kb lb
  have hA1 := hA.below hb0
  have hc := containsEnt (lostB n) 107 #[.pointer (some ⟨w.heap.size, 0, none⟩)] (enters_of Try.func107 (by kernel_rfl) rfl) ve e _ (he.below hb0) hz (fun W x hW => lost1_any _ n e _ x W (hA1.below hW) (hbox.below hW))
  have HB0 := Lib.hid hb0
  clear hn he hA h hA1 hbox hb0
  generalize e.any (lostB n) = y at hc
  go_enter Try.func73, Try.ntmps73
  go_wp2_with (go_at_call 105; refine (hc).mono ?_; rintro x w' ⟨rfl, hN⟩; have HB := Lib.hid (after1 hN).2; clear hN)
  go_ret
  exact ⟨rfl, HB.out⟩

set_option maxRecDepth 100000 in
set_option maxHeartbeats 1000000 in
theorem count_any (g : Value) (n : List Ino) (e : List Ent) (w : World) (h : AuditAt w g n e) (hz : n.length ≤ 1000) :
    Calls Try.prog 74 #[g] w fun x w' => x = .returned (.bool (!n.any (countB e))) ∧ Below w.heap.size w w' := by
  have hA := h
  obtain ⟨vn, ve, kb, lb, kk, kl, rfl, hn, he, _, _, _, _, _, _⟩ := h.ex
  have hb0 : Below w.heap.size w (w.alloc (.cells #[vn, ve, .map (some kb), .map (some lb)] 83)) := (Below.refl _ w).alloc (Nat.le_refl _) _
  have hbox := boxed w vn ve kb lb
  have hA1 := hA.below hb0
  have hc := containsIno (countB e) 108 #[.pointer (some ⟨w.heap.size, 0, none⟩)] (enters_of Try.func108 (by kernel_rfl) rfl) vn n _ (hn.below hb0) hz (fun W x hW => count1_any _ n e _ x W (hA1.below hW) (hbox.below hW))
  have HB0 := Lib.hid hb0
  clear hn he hA h hA1 hbox hb0
  generalize n.any (countB e) = y at hc
  go_enter Try.func74, Try.ntmps74
  go_wp2_with (go_at_call 103; refine (hc).mono ?_; rintro x w' ⟨rfl, hN⟩; have HB := Lib.hid (after1 hN).2; clear hN)
  go_ret
  exact ⟨rfl, HB.out⟩

set_option maxRecDepth 100000 in
set_option maxHeartbeats 1000000 in
theorem many_any (g : Value) (n : List Ino) (e : List Ent) (w : World) (h : AuditAt w g n e) (hz : n.length ≤ 1000) :
    Calls Try.prog 75 #[g] w fun x w' => x = .returned (.bool (!n.any (manyB e))) ∧ Below w.heap.size w w' := by
  have hA := h
  obtain ⟨vn, ve, kb, lb, kk, kl, rfl, hn, he, _, _, _, _, _, _⟩ := h.ex
  have hb0 : Below w.heap.size w (w.alloc (.cells #[vn, ve, .map (some kb), .map (some lb)] 83)) := (Below.refl _ w).alloc (Nat.le_refl _) _
  have hbox := boxed w vn ve kb lb
  have hA1 := hA.below hb0
  have hc := containsIno (manyB e) 109 #[.pointer (some ⟨w.heap.size, 0, none⟩)] (enters_of Try.func109 (by kernel_rfl) rfl) vn n _ (hn.below hb0) hz (fun W x hW => many1_any _ n e _ x W (hA1.below hW) (hbox.below hW))
  have HB0 := Lib.hid hb0
  clear hn he hA h hA1 hbox hb0
  generalize n.any (manyB e) = y at hc
  go_enter Try.func75, Try.ntmps75
  go_wp2_with (go_at_call 103; refine (hc).mono ?_; rintro x w' ⟨rfl, hN⟩; have HB := Lib.hid (after1 hN).2; clear hN)
  go_ret
  exact ⟨rfl, HB.out⟩

def allBoundsB (n : List Ino) : Bool := decide ((n.length : Int) ≤ 40) && !n.any boundsB

set_option maxRecDepth 100000 in
set_option maxHeartbeats 1000000 in
theorem bounds_any (g : Value) (n : List Ino) (e : List Ent) (w : World) (h : AuditAt w g n e) (h1 : n.length ≤ 1000) :
    Calls Try.prog 77 #[g] w fun x w' => x = .returned (.bool (allBoundsB n)) ∧ Below w.heap.size w w' := by
  have hA := h
  obtain ⟨vn, ve, kb, lb, kk, kl, rfl, hn, he, _, _, _, _, _, _⟩ := h.ex
  have hb0 : Below w.heap.size w (w.alloc (.cells #[vn, ve, .map (some kb), .map (some lb)] 83)) := (Below.refl _ w).alloc (Nat.le_refl _) _
  have hbox := boxed w vn ve kb lb
  have hA1 := hA.below hb0
  have hc := containsIno boundsB 111 #[] (enters_of Try.func111 (by kernel_rfl) rfl) vn n _ (hn.below hb0) h1 (fun W x _ => bounds1_any x W)
  have HB0 := Lib.hid hb0
  obtain ⟨a, c, rfl⟩ := hn.len
  clear hn he hA h hA1 hbox hb0
  unfold allBoundsB
  generalize n.any boundsB = y at hc
  by_cases hl : (n.length : Int) ≤ 40
  · rw [decide_eq_true hl, Bool.true_and]
    go_enter Try.func77, Try.ntmps77
    go_wp2_with (go_at_call 103; refine (hc).mono ?_; rintro x w' ⟨rfl, hN⟩; have HB := Lib.hid (after1 hN).2; clear hN)
    go_ret
    exact ⟨rfl, HB.out⟩
  · rw [decide_eq_false hl, Bool.false_and]
    go_enter Try.func77, Try.ntmps77
    go_wp2
    go_ret
    exact ⟨rfl, HB0.out⟩
end Go.Proofs.Ytmnkaohhjhjciaa
