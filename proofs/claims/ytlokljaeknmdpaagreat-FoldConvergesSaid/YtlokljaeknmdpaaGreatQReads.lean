/-
  All that is read of a graph, in one word; no condition.
-/
import Derived.Test.YtlokljaeknmdpaaGreatQGrCopy
import Derived.Test.YtlokljaeknmdpaaGreatKFine
namespace Go.Proofs.YtlokljaeknmdpaaGreat
open Go.RowKit Go.Shelf Go.Proofs

/-- what a graph tells, in each world in which it lies as it is -/
structure Reads (gb : Nat) (g : Gr) (w : World) : Prop where
  get : ∀ (id : St) (i : Ino) (b : Bool) W, g.got id = i → (g.get id).isSome = b → Below w.heap.size w W →
    Calls Tryz.prog 42 #[.pointer (some ⟨gb, 0, none⟩), (.agg #[.int .i64 id.t, .int .i64 id.r])] W fun x w' => x = .returned (.tuple #[(.agg #[.int .i64 i.id.t, .int .i64 i.id.r, .int .i64 i.kind, .int .i64 i.links, .int .i64 i.mode, .string i.data]), .bool b]) ∧ Below W.heap.size W w'
  look : ∀ (p : Pl) (i : St) (b : Bool) W, (g.look p).getD ⟨0, 0⟩ = i → (g.look p).isSome = b → Below w.heap.size w W →
    Calls Tryz.prog 92 #[.pointer (some ⟨gb, 0, none⟩), (.agg #[.int .i64 p.at_.t, .int .i64 p.at_.r]), .string p.name] W fun x w' => x = .returned (.tuple #[(.agg #[.int .i64 i.t, .int .i64 i.r]), .bool b]) ∧ Below W.heap.size W w'
  inodes : ∀ W, Below w.heap.size w W →
    Calls Tryz.prog 22 #[.pointer (some ⟨gb, 0, none⟩)] W fun x w' => ∃ a c, x = .returned (.slice a g.n.length c) ∧ SlAt w' 6 Ino.cells (.slice a g.n.length c) g.n ∧ Below W.heap.size W w'
  entries : ∀ W, Below w.heap.size w W →
    Calls Tryz.prog 23 #[.pointer (some ⟨gb, 0, none⟩)] W fun x w' => ∃ a c, x = .returned (.slice a g.e.length c) ∧ SlAt w' 5 Ent.cells (.slice a g.e.length c) g.e ∧ Below W.heap.size W w'
  list : ∀ (id : St) W, Below w.heap.size w W →
    Calls Tryz.prog 135 #[.pointer (some ⟨gb, 0, none⟩), (.agg #[.int .i64 id.t, .int .i64 id.r])] W fun x w' => ∃ a c, x = .returned (.slice a (g.list id).length c) ∧ SlAt w' 5 Ent.cells (.slice a (g.list id).length c) (g.list id) ∧ Below W.heap.size W w'
  parent : ∀ (id p : St) (b : Bool) W, (g.parent id).getD ⟨0, 0⟩ = p → (g.parent id).isSome = b → Below w.heap.size w W →
    Calls Tryz.prog 159 #[.pointer (some ⟨gb, 0, none⟩), (.agg #[.int .i64 id.t, .int .i64 id.r])] W fun x w' => x = .returned (.tuple #[(.agg #[.int .i64 p.t, .int .i64 p.r]), .bool b]) ∧ Below W.heap.size W w'
  under : ∀ (p q : St) (b : Bool) W, g.under p q = b → Below w.heap.size w W →
    Calls Tryz.prog 108 #[.pointer (some ⟨gb, 0, none⟩), (.agg #[.int .i64 p.t, .int .i64 p.r]), (.agg #[.int .i64 q.t, .int .i64 q.r])] W fun x w' => x = .returned (.bool b) ∧ Below W.heap.size W w'
  copy : ∀ W, Below w.heap.size w W → Calls Tryz.prog 27 #[.pointer (some ⟨gb, 0, none⟩)] W (MadeGr W g)

theorem Reads.below {gb : Nat} {g : Gr} {w w' : World} (h : Reads gb g w) (hb : Below w.heap.size w w') : Reads gb g w' where
  get := fun id i b W h1 h2 hW => h.get id i b W h1 h2 (hb.trans (hW.mono hb.size))
  look := fun p i b W h1 h2 hW => h.look p i b W h1 h2 (hb.trans (hW.mono hb.size))
  inodes := fun W hW => h.inodes W (hb.trans (hW.mono hb.size))
  entries := fun W hW => h.entries W (hb.trans (hW.mono hb.size))
  list := fun id W hW => h.list id W (hb.trans (hW.mono hb.size))
  parent := fun id p b W h1 h2 hW => h.parent id p b W h1 h2 (hb.trans (hW.mono hb.size))
  under := fun p q b W h1 hW => h.under p q b W h1 (hb.trans (hW.mono hb.size))
  copy := fun W hW => h.copy W (hb.trans (hW.mono hb.size))

theorem GrAt.reads {w : World} {gb mI mE : Nat} {g : Gr} (h : GrAt w gb mI mE g) (hok : g.Ok) (hl : g.e.length ≤ 1000) : Reads gb g w where
  get := fun id i b W h1 h2 hW => (get_any gb mI mE g id W (h.below hW) hok.sn).mono fun x w' ⟨a, c⟩ => ⟨by rw [a, h1, h2]; rfl, c.below⟩
  look := fun p i b W h1 h2 hW => (look_any gb mI mE g p W (h.below hW) hok.se).mono fun x w' ⟨a, c⟩ => ⟨by rw [a, h1, h2]; rfl, c.below⟩
  inodes := fun W hW => (inodes_any gb mI mE g W (h.below hW) hok.sn (by have := hok.len; omega)).mono fun x w' ⟨v, a, b, c⟩ => by
    have hs := slAt_ownI b
    obtain ⟨p, q, rfl⟩ := hs.len
    exact ⟨p, q, a, hs, c⟩
  entries := fun W hW => (entries_any gb mI mE g W (h.below hW) hok.se hl).mono fun x w' ⟨v, a, b, c⟩ => by
    have hs := slAt_own b
    obtain ⟨p, q, rfl⟩ := hs.len
    exact ⟨p, q, a, hs, c⟩
  list := fun id W hW => (list_any gb mI mE g id W (h.below hW) hok.se hl).mono fun x w' ⟨v, a, b, c⟩ => by
    have hs := slAt_own b
    obtain ⟨p, q, rfl⟩ := hs.len
    exact ⟨p, q, a, hs, c⟩
  parent := fun id p b W h1 h2 hW => (parent_any gb mI mE g id W (h.below hW) hok.sn hok.se hl).mono fun x w' ⟨a, c⟩ => ⟨by rw [a, h1, h2]; rfl, c⟩
  under := fun p q b W h1 hW => (under_any gb mI mE g p q W (h.below hW) hok hl).mono fun x w' ⟨a, c⟩ => ⟨by rw [a, h1], c⟩
  copy := fun W hW => copy_g gb mI mE g W (h.below hW)
end Go.Proofs.YtlokljaeknmdpaaGreat
