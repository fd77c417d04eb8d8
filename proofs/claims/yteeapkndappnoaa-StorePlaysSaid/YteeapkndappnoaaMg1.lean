/-
  Texts of this proof, merged in their order: Own, Free, FreeB, Row8, Frame, FrameB, FrameC, FrameS, FrameHead, Word, Sto, Step.
-/
import Derived.WalkKit
import Derived.WalkSpells
import Derived.WalkLawsBesides
import Derived.BigQuiet
import Derived.Deep.QuietTactic
import Derived.Maps.OwnOps
import Derived.Maps.OwnSet
import Derived.WalkSmall
import Derived.OpenShut
import Derived.Test.YteeapkndappnoaaRows
import Derived.StillTailTactics
import Derived.Laws.StructEq
import Derived.Laws.BitsAllLaws
import Derived.Laws.Wrap64
/-
  A small logic of what a call owns: 'Has w B L': from block B on, world w holds the things of the list L, each in blocks of its own.
  Contracts are stated over an arbitrary rest of the list, so each is proved once and serves wherever its object lies.
-/
namespace Go.Proofs.Yteeapkndappnoaa
open Go.RowKit
set_option linter.unusedVariables false
set_option linter.unusedSimpArgs false

/-- A fact kept from the walk (which takes each open equation for a rewrite rule). -/
theorem hid {p : Prop} (h : p) : Hid p := h

/-- A callee that leaves the world alone, in a region that draws its order and only reads. -/
theorem quiet_same {P : Program} {f : FuncId} {args : Array Value} {w : World} {n : Nat} {v : Value}
    (h : Calls P f args (w.drewN n) fun e w' => e = .returned v ∧ w.drewN n = w') : Calls P f args (w.drewN n) fun e w'' => e = .returned v ∧ ∃ m, w'' = w.drewN m :=
  h.mono fun _ _ ⟨he, hm⟩ => ⟨he, n, hm.symm⟩

/-- A list without repeats, whose members are another's, is no longer. -/
theorem nodup_le {α : Type} [BEq α] [LawfulBEq α] : ∀ (l1 l2 : List α), l1.Nodup → (∀ x ∈ l1, x ∈ l2) → l1.length ≤ l2.length
  | [], _, _, _ => Nat.zero_le _
  | a :: l, l2, hn, hs => by
    obtain ⟨h1, h2⟩ := List.nodup_cons.1 hn
    have ha := hs a (by simp)
    have := nodup_le l (l2.erase a) h2 (fun x hx => (List.mem_erase_of_ne (fun e => h1 (by rw [← e]; exact hx))).2 (hs x (by simp [hx])))
    rw [List.length_erase_of_mem ha] at this
    have h3 : 0 < l2.length := List.length_pos_of_mem ha
    simp
    omega

/-- A thing in memory: where it holds (in which blocks), that it looks at these alone, and that they are there. -/
structure Asr where
  on : World → List Nat → Prop
  loc : ∀ w w' S, on w S → (∀ k ∈ S, w'.heap[k]? = w.heap[k]?) → on w' S
  lt : ∀ w S, on w S → ∀ k ∈ S, k < w.heap.size

/-- The things of a list, each in blocks of its own. -/
def sepL : List Asr → World → List Nat → Prop
  | [], _, S => S = []
  | A :: L, w, S => ∃ S1 S2, S = S1 ++ S2 ∧ A.on w S1 ∧ sepL L w S2 ∧ ∀ k ∈ S1, k ∉ S2

def Has (w : World) (B : Nat) (L : List Asr) : Prop := B ≤ w.heap.size ∧ ∃ S, sepL L w S ∧ ∀ k ∈ S, B ≤ k

theorem sepL_loc : ∀ (L : List Asr) (w w' : World) (S : List Nat), sepL L w S → (∀ k ∈ S, w'.heap[k]? = w.heap[k]?) → sepL L w' S
  | [], _, _, _, h, _ => h
  | A :: L, w, w', S, ⟨S1, S2, hS, hA, hL, hd⟩, hk => by
    subst hS
    exact ⟨S1, S2, rfl, A.loc w w' S1 hA (fun k h => hk k (by simp [h])), sepL_loc L w w' S2 hL (fun k h => hk k (by simp [h])), hd⟩

theorem sepL_lt : ∀ (L : List Asr) (w : World) (S : List Nat), sepL L w S → ∀ k ∈ S, k < w.heap.size
  | [], _, _, h => by intro k hk; rw [h] at hk; cases hk
  | A :: L, w, S, ⟨S1, S2, hS, hA, hL, _⟩ => by
    intro k hk
    subst hS
    rcases List.mem_append.1 hk with h | h
    · exact A.lt w S1 hA k h
    · exact sepL_lt L w S2 hL k h

theorem sepL_app : ∀ (L1 L2 : List Asr) (w : World) (S : List Nat), sepL (L1 ++ L2) w S ↔ ∃ S1 S2, S = S1 ++ S2 ∧ sepL L1 w S1 ∧ sepL L2 w S2 ∧ ∀ k ∈ S1, k ∉ S2
  | [], L2, w, S => by
    constructor
    · intro h; exact ⟨[], S, rfl, rfl, h, by simp⟩
    · rintro ⟨S1, S2, rfl, rfl, h, _⟩; exact h
  | A :: L1, L2, w, S => by
    constructor
    · rintro ⟨S1, S2, rfl, hA, hL, hd⟩
      obtain ⟨T1, T2, rfl, h1, h2, hd2⟩ := (sepL_app L1 L2 w S2).1 hL
      exact ⟨S1 ++ T1, T2, by simp, ⟨S1, T1, rfl, hA, h1, fun k hk h => hd k hk (by simp [h])⟩, h2, fun k hk h => by
        rcases List.mem_append.1 hk with h' | h'
        · exact hd k h' (by simp [h])
        · exact hd2 k h' h⟩
    · rintro ⟨S1, S2, rfl, ⟨U1, U2, rfl, hA, h1, hd⟩, h2, hd2⟩
      exact ⟨U1, U2 ++ S2, by simp, hA, (sepL_app L1 L2 w _).2 ⟨U2, S2, rfl, h1, h2, fun k hk => hd2 k (by simp [hk])⟩, fun k hk h => by
        rcases List.mem_append.1 h with h' | h'
        · exact hd k hk h'
        · exact hd2 k (by simp [hk]) h'⟩

/-- What one step does to the thing A of a list: the blocks of the others lie as they lay. -/
theorem Has.step {w w' : World} {B : Nat} {A A' : Asr} (L1 L2 : List Asr) (h : Has w B (L1 ++ A :: L2))
    (hs : w.heap.size ≤ w'.heap.size)
    (ht : ∀ S, A.on w S → ∃ S', A'.on w' S' ∧ (∀ k ∈ S', k ∈ S ∨ w.heap.size ≤ k) ∧ ∀ k, k < w.heap.size → k ∉ S → w'.heap[k]? = w.heap[k]?) :
    Has w' B (L1 ++ A' :: L2) := by
  obtain ⟨hB, S, hS, hb⟩ := h
  obtain ⟨S1, S2, rfl, h1, ⟨T1, T2, rfl, hA, h2, hd2⟩, hd⟩ := (sepL_app L1 (A :: L2) w S).1 hS
  obtain ⟨S', hA', hsub, hk⟩ := ht T1 hA
  have l1 := sepL_lt L1 w S1 h1
  have l2 := sepL_lt L2 w T2 h2
  refine ⟨Nat.le_trans hB hs, S1 ++ (S' ++ T2), (sepL_app L1 (A' :: L2) w' _).2 ⟨S1, S' ++ T2, rfl, ?_, ⟨S', T2, rfl, hA', ?_, ?_⟩, ?_⟩, ?_⟩
  · exact sepL_loc L1 w w' S1 h1 (fun k h => hk k (l1 k h) (fun h' => hd k h (by simp [h'])))
  · exact sepL_loc L2 w w' T2 h2 (fun k h => hk k (l2 k h) (fun h' => hd2 k h' h))
  · intro k hk' h
    rcases hsub k hk' with h' | h'
    · exact hd2 k h' h
    · have := l2 k h; omega
  · intro k hk' h
    rcases List.mem_append.1 h with h' | h'
    · rcases hsub k h' with h'' | h''
      · exact hd k hk' (by simp [h''])
      · have := l1 k hk'; omega
    · exact hd k hk' (by simp [h'])
  · intro k hk'
    rcases List.mem_append.1 hk' with h' | h'
    · exact hb k (by simp [h'])
    · rcases List.mem_append.1 h' with h'' | h''
      · rcases hsub k h'' with h3 | h3
        · exact hb k (by simp [h3])
        · omega
      · exact hb k (by simp [h''])

/-- Nothing of the list has been touched. -/
theorem Has.keep {w w' : World} {B : Nat} {L : List Asr} (h : Has w B L) (hs : w.heap.size ≤ w'.heap.size) (hk : ∀ k, k < w.heap.size → w'.heap[k]? = w.heap[k]?) : Has w' B L := by
  obtain ⟨hB, S, hS, hb⟩ := h
  exact ⟨Nat.le_trans hB hs, S, sepL_loc L w w' S hS (fun k h => hk k (sepL_lt L w S hS k h)), hb⟩

/-- A new thing in new blocks. -/
theorem Has.new {w w' : World} {B : Nat} {L : List Asr} (A : Asr) (h : Has w B L) (hs : w.heap.size ≤ w'.heap.size) (hk : ∀ k, k < w.heap.size → w'.heap[k]? = w.heap[k]?)
    (hA : ∃ S, A.on w' S ∧ ∀ k ∈ S, w.heap.size ≤ k) : Has w' B (A :: L) := by
  obtain ⟨hB, S, hS, hb⟩ := h
  obtain ⟨S', hA, hS'⟩ := hA
  refine ⟨Nat.le_trans hB hs, S' ++ S, ⟨S', S, rfl, hA, sepL_loc L w w' S hS (fun k h => hk k (sepL_lt L w S hS k h)), fun k h h' => ?_⟩, fun k h => ?_⟩
  · have := sepL_lt L w S hS k h'
    have := hS' k h
    omega
  · rcases List.mem_append.1 h with h' | h'
    · have := hS' k h'; omega
    · exact hb k h'

/-- Nothing that was there has turned. -/
theorem Has.below {w w' : World} {B : Nat} {L : List Asr} (h : Has w B L) (hb : Below w.heap.size w w') : Has w' B L := h.keep hb.size (fun k hk => hb.block k hk)
theorem Has.le {w : World} {B : Nat} {L : List Asr} (h : Has w B L) : B ≤ w.heap.size := h.1
theorem Has.nil {w : World} {B : Nat} (h : B ≤ w.heap.size) : Has w B [] := ⟨h, [], rfl, by simp⟩

theorem sepL_perm {w : World} {L L' : List Asr} (hp : L.Perm L') : ∀ S, sepL L w S → ∃ S', sepL L' w S' ∧ ∀ k, k ∈ S' ↔ k ∈ S := by
  induction hp with
  | nil => exact fun S h => ⟨S, h, fun _ => Iff.rfl⟩
  | cons A _ ih =>
    rintro S ⟨S1, S2, rfl, hA, hL, hd⟩
    obtain ⟨S', h', hk⟩ := ih S2 hL
    exact ⟨S1 ++ S', ⟨S1, S', rfl, hA, h', fun k h1 h2 => hd k h1 ((hk k).1 h2)⟩, fun k => by simp [hk]⟩
  | swap A A' L =>
    rintro S ⟨S1, S2, rfl, hA, ⟨T1, T2, rfl, hA', hL, hd2⟩, hd⟩
    exact ⟨T1 ++ (S1 ++ T2), ⟨T1, S1 ++ T2, rfl, hA', ⟨S1, T2, rfl, hA, hL, fun k h1 h2 => hd k h1 (by simp [h2])⟩, fun k h1 h2 => by
      rcases List.mem_append.1 h2 with h | h
      · exact hd k h (by simp [h1])
      · exact hd2 k h1 h⟩, fun k => by simp; grind⟩
  | trans _ _ ih1 ih2 =>
    intro S h
    obtain ⟨S1, h1, k1⟩ := ih1 S h
    obtain ⟨S2, h2, k2⟩ := ih2 S1 h1
    exact ⟨S2, h2, fun k => (k2 k).trans (k1 k)⟩

theorem Has.perm {w : World} {B : Nat} {L L' : List Asr} (h : Has w B L) (hp : L.Perm L') : Has w B L' := by
  obtain ⟨hB, S, hS, hb⟩ := h
  obtain ⟨S', h', hk⟩ := sepL_perm hp S hS
  exact ⟨hB, S', h', fun k h => hb k ((hk k).1 h)⟩

/-- The thing A of a list comes to the front. -/
theorem Has.front {w : World} {B : Nat} {A : Asr} (L1 L2 : List Asr) (h : Has w B (L1 ++ A :: L2)) : Has w B (A :: (L1 ++ L2)) := h.perm List.perm_middle
theorem Has.back {w : World} {B : Nat} {A : Asr} (L1 L2 : List Asr) (h : Has w B (A :: (L1 ++ L2))) : Has w B (L1 ++ A :: L2) := h.perm List.perm_middle.symm

theorem Has.cast {w : World} {B : Nat} {A A' : Asr} (L1 L2 : List Asr) (h : Has w B (L1 ++ A :: L2)) (hc : ∀ S, A.on w S → A'.on w S) : Has w B (L1 ++ A' :: L2) :=
  h.step L1 L2 (Nat.le_refl _) (fun S hA => ⟨S, hc S hA, fun _ h => .inl h, fun _ _ _ => rfl⟩)

theorem Has.drop {w : World} {B : Nat} {A : Asr} {L : List Asr} (h : Has w B (A :: L)) : Has w B L := by
  obtain ⟨hB, S, ⟨S1, S2, rfl, _, hL, _⟩, hb⟩ := h
  exact ⟨hB, S2, hL, fun k h => hb k (by simp [h])⟩

theorem Has.tl {w : World} {B : Nat} {L1 L2 : List Asr} (h : Has w B (L1 ++ L2)) : Has w B L2 := by
  induction L1 with
  | nil => exact h
  | cons A L ih => exact ih h.drop

theorem Has.hd {w : World} {B : Nat} {A : Asr} {L : List Asr} (h : Has w B (A :: L)) : ∃ S, A.on w S ∧ ∀ k ∈ S, B ≤ k := by
  obtain ⟨hB, S, ⟨S1, S2, rfl, hA, _, _⟩, hb⟩ := h
  exact ⟨S1, hA, fun k h => hb k (by simp [h])⟩

theorem Has.at {w : World} {B : Nat} {A : Asr} (L1 L2 : List Asr) (h : Has w B (L1 ++ A :: L2)) : ∃ S, A.on w S ∧ ∀ k ∈ S, B ≤ k := (h.front L1 L2).hd

/-! ### things -/
/-- Several things as one. -/
def Asr.all (L : List Asr) : Asr := ⟨sepL L, sepL_loc L, sepL_lt L⟩
/-- Some x's thing. -/
def Asr.ex {α : Type} (A : α → Asr) : Asr where
  on := fun w S => ∃ x, (A x).on w S
  loc := fun w w' S ⟨x, h⟩ hk => ⟨x, (A x).loc w w' S h hk⟩
  lt := fun w S ⟨x, h⟩ => (A x).lt w S h
/-- A thing of which p is so besides. -/
def Asr.and (p : Prop) (A : Asr) : Asr where
  on := fun w S => p ∧ A.on w S
  loc := fun w w' S ⟨hp, h⟩ hk => ⟨hp, A.loc w w' S h hk⟩
  lt := fun w S ⟨_, h⟩ => A.lt w S h

theorem Has.open_all {w : World} {B : Nat} {L X : List Asr} (h : Has w B (Asr.all L :: X)) : Has w B (L ++ X) := by
  obtain ⟨hB, S, ⟨S1, S2, rfl, hA, hL, hd⟩, hb⟩ := h
  exact ⟨hB, S1 ++ S2, (sepL_app L X w _).2 ⟨S1, S2, rfl, hA, hL, hd⟩, hb⟩
theorem Has.shut_all {w : World} {B : Nat} {X : List Asr} (L : List Asr) (h : Has w B (L ++ X)) : Has w B (Asr.all L :: X) := by
  obtain ⟨hB, S, hS, hb⟩ := h
  obtain ⟨S1, S2, rfl, hA, hL, hd⟩ := (sepL_app L X w _).1 hS
  exact ⟨hB, S1 ++ S2, ⟨S1, S2, rfl, hA, hL, hd⟩, hb⟩
theorem Has.open_ex {α : Type} {w : World} {B : Nat} {A : α → Asr} {X : List Asr} (h : Has w B (Asr.ex A :: X)) : ∃ x, Has w B (A x :: X) := by
  obtain ⟨hB, S, ⟨S1, S2, rfl, ⟨x, hA⟩, hL, hd⟩, hb⟩ := h
  exact ⟨x, hB, S1 ++ S2, ⟨S1, S2, rfl, hA, hL, hd⟩, hb⟩
theorem Has.shut_ex {α : Type} {w : World} {B : Nat} {A : α → Asr} {X : List Asr} (x : α) (h : Has w B (A x :: X)) : Has w B (Asr.ex A :: X) :=
  h.cast [] X (fun _ hA => ⟨x, hA⟩)
theorem Has.open_and {p : Prop} {w : World} {B : Nat} {A : Asr} {X : List Asr} (h : Has w B (Asr.and p A :: X)) : p ∧ Has w B (A :: X) := by
  obtain ⟨_, ⟨hp, _⟩, _⟩ := h.hd
  exact ⟨hp, h.cast [] X (fun _ hA => hA.2)⟩
theorem Has.shut_and {p : Prop} {w : World} {B : Nat} {A : Asr} {X : List Asr} (hp : p) (h : Has w B (A :: X)) : Has w B (Asr.and p A :: X) :=
  h.cast [] X (fun _ hA => ⟨hp, hA⟩)

/-- A block of cells, whole. -/
def blk (b : Nat) (T : TypeId) (cs : Array Value) : Asr where
  on := fun w S => S = [b] ∧ w.heap[b]? = some (.cells cs T (0, 0))
  loc := fun w w' S ⟨hS, h⟩ hk => ⟨hS, by subst hS; exact (hk b (by simp)).trans h⟩
  lt := fun w S ⟨hS, h⟩ => by
    intro k hk
    subst hS
    simp at hk
    subst hk
    exact (Array.getElem?_eq_some_iff.1 h).1

/-- A slice of the call's own: its elements' cells. -/
def row (T : TypeId) (size : Nat) (v : Value) (n : Nat) (xs : List Value) : Asr where
  on := fun w S => S = v.ownBlock.toList ∧ w.ownsRow 0 T size v n xs
  loc := fun w w' S ⟨hS, h⟩ hk => ⟨hS, by
    subst hS
    refine ⟨h.1, ?_⟩
    rcases h.2 with hn | ⟨g, cap, cur, rfl, hb, hgg, rest⟩
    · exact .inl hn
    · exact .inr ⟨g, cap, cur, rfl, hb, (hk g (by simp [Value.ownBlock])).trans hgg, rest⟩⟩
  lt := fun w S ⟨hS, h⟩ => by
    intro k hk
    subst hS
    cases hv : v.ownBlock with
    | none => simp [hv] at hk
    | some b => simp [hv] at hk; subst hk; exact (h.lt _ hv).2

/-- A map of ints to ints: what it holds, and of how many keys. -/
def IMap (P : Program) (T : TypeId) (w : World) (b : Nat) (g : Int → Option Int) (n : Nat) : Prop :=
  ∃ D : DataW Unit, w.ownsMap P T (plainElem P T) b n D ∧ Maps.size D = n ∧
    ∀ x : Int, (Lit.int .i64 x).wf = true → Maps.has D (.int .i64 x) = (g x).isSome ∧ D.atKey (.int .i64 x) (.lit (.int .i64 0)) = .lit (.int .i64 ((g x).getD 0))

def imap (P : Program) (T : TypeId) (b : Nat) (g : Int → Option Int) (n : Nat) : Asr where
  on := fun w S => S = [b] ∧ IMap P T w b g n
  loc := fun w w' S ⟨hS, D, h, hr⟩ hk => ⟨hS, D, by
    subst hS
    obtain ⟨es, clock, hb, hrest⟩ := h
    exact ⟨es, clock, (hk b (by simp)).trans hb, hrest⟩, hr⟩
  lt := fun w S ⟨hS, D, h, _⟩ => by
    intro k hk
    subst hS
    simp at hk
    subst hk
    exact h.lt

/-! ### blocks of cells -/
section
variable {w : World} {B b : Nat} {T : TypeId} {cs : Array Value}

theorem Has.blk_at (L1 L2 : List Asr) (h : Has w B (L1 ++ blk b T cs :: L2)) : w.heap[b]? = some (.cells cs T (0, 0)) ∧ B ≤ b ∧ b < w.heap.size := by
  obtain ⟨S, ⟨rfl, hb⟩, hk⟩ := h.at L1 L2
  exact ⟨hb, hk b (by simp), (Array.getElem?_eq_some_iff.1 hb).1⟩

theorem cell_of_blk {i : Nat} {v : Value} (h : w.heap[b]? = some (.cells cs T (0, 0))) (hi : cs[i]? = some v) : w.cell? ⟨b, i, none⟩ = some v := by
  simp [World.cell?, h, hi]
theorem frozen_of_blk {i : Nat} (h : w.heap[b]? = some (.cells cs T (0, 0))) : w.frozen? ⟨b, i, none⟩ = false := by
  simp [World.frozen?, h]

theorem Has.cell (L1 L2 : List Asr) (h : Has w B (L1 ++ blk b T cs :: L2)) (i : Nat) {v : Value} (hi : cs[i]? = some v) : w.cell? ⟨b, i, none⟩ = some v := cell_of_blk (h.blk_at L1 L2).1 hi
theorem Has.frozen (L1 L2 : List Asr) (h : Has w B (L1 ++ blk b T cs :: L2)) (i : Nat) : w.frozen? ⟨b, i, none⟩ = false := frozen_of_blk (h.blk_at L1 L2).1

theorem Has.set (L1 L2 : List Asr) (h : Has w B (L1 ++ blk b T cs :: L2)) (i : Nat) (v : Value) : Has (w.setCell ⟨b, i, none⟩ v) B (L1 ++ blk b T (cs.setIfInBounds i v) :: L2) :=
  h.step L1 L2 (by simp [World.setCell]) (fun S ⟨hS, hb⟩ => ⟨[b], ⟨rfl, heap_setCell_same w b i cs T v hb⟩, fun k hk => .inl (by rw [hS]; exact hk), fun k _ hk => heap_setCell_other _ _ _ _ (fun e => hk (by rw [hS, e]; simp))⟩)

theorem below_set {w0 : World} {B : Nat} (hb : Below B w0 w) (L1 L2 : List Asr) (h : Has w B (L1 ++ blk b T cs :: L2)) (i : Nat) (v : Value) : Below B w0 (w.setCell ⟨b, i, none⟩ v) :=
  hb.setCell (p := ⟨b, i, none⟩) (h.blk_at L1 L2).2.1 v

theorem Has.drewN {L : List Asr} (h : Has w B L) (n : Nat) : Has (w.drewN n) B L := h.keep (Nat.le_refl _) (fun _ _ => rfl)
theorem Has.drew {L : List Asr} (h : Has w B L) : Has w.drew B L := h.keep (Nat.le_refl _) (fun _ _ => rfl)

theorem Has.alloc {L : List Asr} (h : Has w B L) (o : Obj) : Has (w.alloc o) B L := h.keep (by simp) (fun k hk => Below.heap_alloc w o k hk)
theorem Has.newblk {L : List Asr} (h : Has w B L) (b : Nat) (T : TypeId) (cs : Array Value) (hb : w.heap.size = b) : Has (w.alloc (.cells cs T)) B (blk b T cs :: L) := hb ▸
  h.new _ (by simp) (fun k hk => Below.heap_alloc w _ k hk) ⟨[w.heap.size], ⟨rfl, heap_alloc_new w _⟩, by simp⟩
theorem below_new {w0 : World} (hb : Below B w0 w) {L : List Asr} (h : Has w B L) (o : Obj) : Below B w0 (w.alloc o) := hb.alloc h.le o
end

/-! ### a struct or an array, whole -/
section
variable {P : Program} {w : World} {B b : Nat} {T : TypeId} {cs : Array Value} {ops : Array Oper} {rest : List Oper} {o : Oper} {a : Act} {Q : Exit → Act → World → Prop}

theorem run_loadVar_at (ad : Addr) (ty : TypeId) (d : TypeDesc) (l : List Value) (hc : ∀ j u, l[j]? = some u → w.cell? (ad.add j) = some u)
    (hu : P.underlying ty = some d) (hd : (match d with | .struct _ | .array _ _ => true | _ => false) = true) (hi : (P.info? ty).map (·.size) = some l.length) : (loadVar ty ad).run P w = .ok (.agg l.toArray) w := by
  have hl : (loadCells ad l.length).run P w = .ok l.toArray w := run_loadCells_list (P := P) w ad l hc
  cases hq : P.info? ty with
  | none => simp [hq] at hi
  | some i =>
    have hs : i.size = l.length := by simpa [hq] using hi
    have hagg : (isAgg ty).run P w = .ok true w := by
      unfold isAgg
      cases d <;> simp_all [run_underlying hu]
    simp [loadVar, hagg, sizeOf, typeInfo, hq, hs, hl]

/-- A struct or an array is loaded, out of cells that are known. -/
theorem wpList_load_at (ty : TypeId) (x : Operand) (ho : o.op = .load ty x) (hgd : Region.wanted o (yielded ops a.tmps) = true) (ad : Addr) (hx : a.eval x = .pointer (some ad)) (d : TypeDesc) (l : List Value)
    (hc : ∀ j u, l[j]? = some u → w.cell? (ad.add j) = some u) (hu : P.underlying ty = some d) (hd : (match d with | .struct _ | .array _ _ => true | _ => false) = true) (hi : (P.info? ty).map (·.size) = some l.length)
    (h : wpList P ops Q rest (a.put o.dst (.agg l.toArray)) w) : wpList P ops Q (o :: rest) a w := by
  refine BigFrame.wpList_want hgd fun K hK => ?_
  unfold Oper.wp execOp
  simp only [ho, hx, Instr.loadAt, Instr.sureAddr, Sem.run_bind, Sem.run_pure, Result.andThen_ok, run_loadVar_at ad ty d l hc hu hd hi]
  exact hK _ _ h

/-- .. out of a block of the call's own. -/
theorem wpList_load_blk (L1 L2 : List Asr) (hH : Has w B (L1 ++ blk b T cs :: L2)) (ty : TypeId) (x : Operand) (ho : o.op = .load ty x) (hgd : Region.wanted o (yielded ops a.tmps) = true) (hx : a.eval x = .pointer (some ⟨b, 0, none⟩)) (d : TypeDesc)
    (hu : P.underlying ty = some d) (hd : (match d with | .struct _ | .array _ _ => true | _ => false) = true) (hi : (P.info? ty).map (·.size) = some cs.size)
    (h : wpList P ops Q rest (a.put o.dst (.agg cs)) w) : wpList P ops Q (o :: rest) a w :=
  BigFrame.wpList_want hgd fun _ hK => wp_load_row ty x ho b hx T cs (0, 0) d (hH.blk_at L1 L2).1 hu hd hi (hK _ _ h)

/-- A struct or an array is stored into a block of the call's own, from cell k on. -/
theorem wpList_store_blk (L1 L2 : List Asr) (hH : Has w B (L1 ++ blk b T cs :: L2)) (ty : TypeId) (x v : Operand) (ho : o.op = .store ty x v) (hgd : Region.wanted o (yielded ops a.tmps) = true) (k : Nat) (hx : a.eval x = .pointer (some ⟨b, k, none⟩)) (vs : Array Value) (hv : a.eval v = .agg vs)
    (hi : (P.info? ty).map (·.size) = some vs.size) (hk : k + vs.size ≤ cs.size) (h1 : ∀ u ∈ vs.toList, u.oneCell' = true)
    (hK : ∀ w', Has w' B (L1 ++ blk b T (cs.toList.take k ++ vs.toList ++ cs.toList.drop (k + vs.size)).toArray :: L2) → Below B w w' → w'.heap.size = w.heap.size → wpList P ops Q rest (a.put o.dst undef) w') : wpList P ops Q (o :: rest) a w := by
  obtain ⟨hb, hB, hlt⟩ := hH.blk_at L1 L2
  refine BigFrame.wpList_want hgd fun K hK' => ?_
  have hst := run_storeCells_at (P := P) b k T vs.toList 0 cs w hb (by simpa using hk) h1
  have hsz : (sizeOf ty).run P w = .ok vs.size w := by
    cases hq : P.info? ty with
    | none => simp [hq] at hi
    | some i => simp [hq] at hi; simp [sizeOf, typeInfo, hq, hi]
  unfold Oper.wp execOp
  simp only [ho, hx, hv, Instr.storeAt, Instr.sureAddr, storeVar, Value.cells, Sem.run_bind, Sem.run_pure, Result.andThen_ok, hsz, ne_eq, not_true_eq_false, if_false, hst]
  refine hK' _ _ (hK _ ?_ ?_ (by simp))
  · have := hH.step (A' := blk b T (cs.toList.take k ++ vs.toList ++ cs.toList.drop (k + vs.size)).toArray) L1 L2 (w' := w.setRow b (cs.toList.take k ++ vs.toList ++ cs.toList.drop (k + vs.size)).toArray) (by simp)
      (fun S ⟨hS, _⟩ => ⟨[b], ⟨rfl, setRow_heap w b cs _ T (0, 0) hb⟩, fun z hz => .inl (by rw [hS]; exact hz), fun z _ hz => setRow_other w b z _ (fun e => hz (by rw [hS, e]; simp))⟩)
    simpa using this
  · refine ⟨rfl, rfl, rfl, by simp, fun z hz => ?_⟩
    rw [setRow_other _ _ _ _ (by omega)]
/-- A block's whole content is another one. -/
theorem wpList_store_all (L1 L2 : List Asr) (hH : Has w B (L1 ++ blk b T cs :: L2)) (ty : TypeId) (x v : Operand) (ho : o.op = .store ty x v) (hgd : Region.wanted o (yielded ops a.tmps) = true) (hx : a.eval x = .pointer (some ⟨b, 0, none⟩)) (vs : Array Value) (hv : a.eval v = .agg vs)
    (hi : (P.info? ty).map (·.size) = some vs.size) (hk : vs.size = cs.size) (h1 : ∀ u ∈ vs.toList, u.oneCell' = true)
    (hK : ∀ w', Has w' B (L1 ++ blk b T vs :: L2) → Below B w w' → w'.heap.size = w.heap.size → wpList P ops Q rest (a.put o.dst undef) w') : wpList P ops Q (o :: rest) a w := by
  refine wpList_store_blk L1 L2 hH ty x v ho hgd 0 hx vs hv hi (by omega) h1 (fun w' hH' => ?_)
  have e : (cs.toList.take 0 ++ vs.toList ++ cs.toList.drop (0 + vs.size)).toArray = vs := by
    rw [List.take_zero, List.nil_append, List.drop_of_length_le (by simp; omega), List.append_nil]
  rw [e] at hH'
  exact hK w' hH'
end

/-! ### maps of ints -/
section
variable {P : Program} {T : TypeId} {w : World} {B b n : Nat} {g : Int → Option Int}

theorem Has.newmap {L : List Asr} (h : Has w B L) (b : Nat) (P : Program) (T : TypeId) (hb : w.heap.size = b) : Has (w.alloc (.map #[] 0)) B (imap P T b (fun _ => none) 0 :: L) := hb ▸
  h.new _ (by simp) (fun k hk => Below.heap_alloc w _ k hk) ⟨[w.heap.size], ⟨rfl, .map [], World.ownsMap_made w P T _, rfl, fun x _ => ⟨rfl, rfl⟩⟩, by simp⟩

theorem Has.map_at (L1 L2 : List Asr) (h : Has w B (L1 ++ imap P T b g n :: L2)) : IMap P T w b g n ∧ B ≤ b ∧ b < w.heap.size := by
  obtain ⟨S, ⟨rfl, hb⟩, hk⟩ := h.at L1 L2
  exact ⟨hb, hk b (by simp), by obtain ⟨D, hD, _⟩ := hb; exact hD.lt⟩

def upd (g : Int → Option Int) (x : Int) (y : Option Int) : Int → Option Int := fun z => if z = x then y else g z
/-- How many keys there are behind a store, behind a delete. (Plain definitions, so that a walk does not part on them.) -/
def more (g : Int → Option Int) (x : Int) (n : Nat) : Nat := if (g x).isSome then n else n + 1
def less (g : Int → Option Int) (x : Int) (n : Nat) : Nat := if (g x).isSome then n - 1 else n
theorem upd_same (g : Int → Option Int) (x : Int) (y : Option Int) : upd g x y x = y := by simp [upd]
theorem upd_other (g : Int → Option Int) {x z : Int} (y : Option Int) (h : z ≠ x) : upd g x y z = g z := by simp [upd, h]

/-- A bound on how many entries a block has, made exact. -/
theorem ownsMap_exact {H : Type} {R : Value → Option (DataW H × List MemPlace)} {D : DataW H} {N : Nat} (h : w.ownsMap P T R b N D) : w.ownsMap P T R b (Maps.size D) D := by
  obtain ⟨es, clock, hb, F, hs, rfl⟩ := h
  exact ⟨es, clock, hb, F, by simp [Maps.size, length_sorted], rfl⟩

theorem IMap.put {w' : World} {D : DataW Unit} (hT : P.underlying T = some (.int .i64)) (hD : w.ownsMap P T (plainElem P T) b n D) (hs : Maps.size D = n)
    (hr : ∀ x : Int, (Lit.int .i64 x).wf = true → Maps.has D (.int .i64 x) = (g x).isSome ∧ D.atKey (.int .i64 x) (.lit (.int .i64 0)) = .lit (.int .i64 ((g x).getD 0)))
    (x y : Int) (hx : (Lit.int .i64 x).wf = true) (h : w'.ownsMap P T (plainElem P T) b (n + 1) (D.put (.int .i64 x) (.lit (.int .i64 y)))) :
    IMap P T w' b (upd g x (some y)) (more g x n) := by
  unfold more
  have K : Maps.Keyed P T := Maps.int_keyed hT
  have hk : WideAt.IsKeyLit (.int .i64 x) := K.key (Maps.keyOf_int_mk hT hx)
  have tidy : Maps.Tidy D := hD.tidy K
  have e1 := Maps.size_put (k := .int .i64 x) tidy (.lit (.int .i64 y))
  rw [(hr x hx).1, hs] at e1
  refine ⟨_, by rw [← e1]; exact ownsMap_exact h, e1, fun z hz => ?_⟩
  by_cases e : z = x
  · subst e
    rw [upd_same, Maps.has_put_same tidy.isMap hk, Maps.atKey_put_same tidy.isMap hk]
    exact ⟨rfl, rfl⟩
  · have hne : (Lit.int .i64 z) ≠ .int .i64 x := fun h' => e (by injection h')
    rw [upd_other g _ e, Maps.has_put_other hne, Maps.atKey_put_other hne]
    exact hr z hz

theorem IMap.del {w' : World} {D : DataW Unit} (hT : P.underlying T = some (.int .i64)) (hD : w.ownsMap P T (plainElem P T) b n D) (hs : Maps.size D = n)
    (hr : ∀ x : Int, (Lit.int .i64 x).wf = true → Maps.has D (.int .i64 x) = (g x).isSome ∧ D.atKey (.int .i64 x) (.lit (.int .i64 0)) = .lit (.int .i64 ((g x).getD 0)))
    (x : Int) (hx : (Lit.int .i64 x).wf = true) (h : w'.ownsMap P T (plainElem P T) b n (D.del (.int .i64 x))) :
    IMap P T w' b (upd g x none) (less g x n) := by
  unfold less
  have K : Maps.Keyed P T := Maps.int_keyed hT
  have tidy : Maps.Tidy D := hD.tidy K
  have e1 := Maps.size_del (k := .int .i64 x) tidy
  rw [(hr x hx).1, hs] at e1
  have e2 : Maps.size (D.del (.int .i64 x)) = if (g x).isSome then n - 1 else n := by split at e1 <;> simp_all <;> omega
  refine ⟨_, by rw [← e2]; exact ownsMap_exact h, e2, fun z hz => ?_⟩
  by_cases e : z = x
  · subst e
    rw [upd_same, Maps.has_del_same, Maps.atKey_del_same]
    exact ⟨rfl, rfl⟩
  · have hne : (Lit.int .i64 z) ≠ .int .i64 x := fun h' => e (by injection h')
    rw [upd_other g _ e, Maps.has_del_other hne, Maps.atKey_del_other hne]
    exact hr z hz

variable {ops : Array Oper} {rest : List Oper} {o : Oper} {a : Act} {Q : Exit → Act → World → Prop}

theorem wpList_map_get (L1 L2 : List Asr) (hH : Has w B (L1 ++ imap P T b g n :: L2)) (hg : o.guard = none) (m x : Operand) (t : TypeId) (hop : o.op = Op.lookup t m x false)
    (ht : P.underlying t = some (.map T T)) (hT : P.underlying T = some (.int .i64)) (hz : (zeroValue T).run P w = .ok (.int .i64 0) w)
    (hm : a.eval m = .map (some b)) (key : Int) (hx : a.eval x = .int .i64 key) (hw : (Lit.int .i64 key).wf = true)
    (hK : wpList P ops Q rest (a.put o.dst (.int .i64 ((g key).getD 0))) w) : wpList P ops Q (o :: rest) a w := by
  obtain ⟨⟨D, hD, hs, hr⟩, _⟩ := hH.map_at L1 L2
  refine wpList_lookup_own_int w hg m x t hop T T .i64 (Maps.int_keyed hT) ht hT hz b n D hm hD _ _ hx (Maps.keyOf_int_mk hT hw) (fun c hc _ => ?_)
  rw [(hr key hw).2] at hc
  injection hc with hc
  injection hc with _ hc
  rw [← hc]
  exact hK

theorem wpList_map_get_ok (L1 L2 : List Asr) (hH : Has w B (L1 ++ imap P T b g n :: L2)) (hg : o.guard = none) (m x : Operand) (t : TypeId) (hop : o.op = Op.lookup t m x true)
    (ht : P.underlying t = some (.map T T)) (hT : P.underlying T = some (.int .i64)) (hz : (zeroValue T).run P w = .ok (.int .i64 0) w)
    (hm : a.eval m = .map (some b)) (key : Int) (hx : a.eval x = .int .i64 key) (hw : (Lit.int .i64 key).wf = true)
    (hK : wpList P ops Q rest (a.put o.dst (.tuple #[.int .i64 ((g key).getD 0), .bool (g key).isSome])) w) : wpList P ops Q (o :: rest) a w := by
  obtain ⟨⟨D, hD, hs, hr⟩, _⟩ := hH.map_at L1 L2
  refine wpList_lookup_own_ok_int w hg m x t hop T T .i64 (Maps.int_keyed hT) ht hT hz b n D hm hD _ _ hx (Maps.keyOf_int_mk hT hw) (fun c hc _ => ?_)
  rw [(hr key hw).2] at hc
  injection hc with hc
  injection hc with _ hc
  rw [← hc, (hr key hw).1]
  exact hK

theorem wpList_map_put (L1 L2 : List Asr) (hH : Has w B (L1 ++ imap P T b g n :: L2)) (hg : o.guard = none) (m x v : Operand) (t : TypeId) (hop : o.op = Op.mapUpdate t m x v)
    (ht : P.underlying t = some (.map T T)) (hT : P.underlying T = some (.int .i64))
    (hm : a.eval m = .map (some b)) (key val : Int) (hx : a.eval x = .int .i64 key) (hv : a.eval v = .int .i64 val) (hw : (Lit.int .i64 key).wf = true) (hwv : (Lit.int .i64 val).wf = true) (hn : n < maxLen)
    (hK : ∀ w', Has w' B (L1 ++ imap P T b (upd g key (some val)) (more g key n) :: L2) → Below B w w' → wpList P ops Q rest (a.put o.dst undef) w') : wpList P ops Q (o :: rest) a w := by
  obtain ⟨⟨D, hD, hs, hr⟩, hB, _⟩ := hH.map_at L1 L2
  refine wpList_mapUpdate_own w hg m x v t hop T T (Maps.int_keyed hT) ht _ b n D hm hD hn _ _ _ hx hv (Maps.keyOf_int_mk hT hw) _ [] (plainElem_int hT hwv) (fun w' h' hgr => hK w' ?_ ?_)
  · refine hH.step L1 L2 hgr.size (fun S ⟨hS, _⟩ => ⟨[b], ⟨rfl, IMap.put hT hD hs hr key val hw h'⟩, fun k hk => .inl (by rw [hS]; exact hk), fun k hk hk' => hgr.block k hk (fun e => hk' (by rw [hS]; injection e with e; simp [e]))⟩)
  · exact (Below.refl _ _).grown hgr hH.le (fun k hk => by cases hk; exact hB)

theorem wpList_map_del (L1 L2 : List Asr) (hH : Has w B (L1 ++ imap P T b g n :: L2)) (hg : o.guard = none) (m x : Operand) (t : TypeId) (hop : o.op = Op.call { callee := Callee.builtin Builtin.delete, args := #[m, x], argTypes := #[t, T] })
    (ht : P.underlying t = some (.map T T)) (hT : P.underlying T = some (.int .i64))
    (hm : a.eval m = .map (some b)) (key : Int) (hx : a.eval x = .int .i64 key) (hw : (Lit.int .i64 key).wf = true)
    (hK : ∀ w', Has w' B (L1 ++ imap P T b (upd g key none) (less g key n) :: L2) → Below B w w' → wpList P ops Q rest (a.put o.dst (.tuple #[])) w') : wpList P ops Q (o :: rest) a w := by
  obtain ⟨⟨D, hD, hs, hr⟩, hB, _⟩ := hH.map_at L1 L2
  refine wpList_delete_own w hg m x t T hop T (Maps.int_keyed hT) ht _ b n D hm hD _ _ hx (Maps.keyOf_int_mk hT hw) (fun w' h' htn => ?_)
  have hgr := World.mapTurned.grown htn
  refine hK w' ?_ ?_
  · refine hH.step L1 L2 hgr.size (fun S ⟨hS, _⟩ => ⟨[b], ⟨rfl, IMap.del hT hD hs hr key hw h'⟩, fun k hk => .inl (by rw [hS]; exact hk), fun k hk hk' => hgr.block k hk (fun e => hk' (by rw [hS]; injection e with e; simp [e]))⟩)
  · exact (Below.refl _ _).grown hgr hH.le (fun k hk => by cases hk; exact hB)

theorem wpList_map_len (L1 L2 : List Asr) (hH : Has w B (L1 ++ imap P T b g n :: L2)) (hg : o.guard = none) (m : Operand) (t : TypeId) (hop : o.op = Op.call { callee := Callee.builtin Builtin.len, args := #[m], argTypes := #[t] })
    (ht : P.underlying t = some (.map T T)) (hm : a.eval m = .map (some b))
    (hK : wpList P ops Q rest (a.put o.dst (.int .i64 n)) w) : wpList P ops Q (o :: rest) a w := by
  obtain ⟨⟨D, hD, hs, hr⟩, _⟩ := hH.map_at L1 L2
  refine wpList_len_own w hg m t hop T T ht _ b n D hm hD ?_
  rw [hs]
  exact hK
end

/-! ### slices of the call's own -/
section
variable {P : Program} {T : TypeId} {w : World} {B n size : Nat} {v : Value} {xs : List Value}

theorem Has.nilrow {L : List Asr} (h : Has w B L) (T : TypeId) (size : Nat) : Has w B (row T size (.slice none 0 0) 0 [] :: L) :=
  h.new _ (Nat.le_refl _) (fun _ _ => rfl) ⟨[], ⟨rfl, World.ownsRow_nil _ _ _ _⟩, by simp⟩

theorem Has.row_at (L1 L2 : List Asr) (h : Has w B (L1 ++ row T size v n xs :: L2)) : w.ownsRow 0 T size v n xs ∧ ∀ g, v.ownBlock = some g → B ≤ g ∧ g < w.heap.size := by
  obtain ⟨S, ⟨rfl, hr⟩, hk⟩ := h.at L1 L2
  exact ⟨hr, fun g hg => ⟨hk g (by simp [hg]), (hr.lt g hg).2⟩⟩

theorem Has.row_len (L1 L2 : List Asr) (h : Has w B (L1 ++ row T size v n xs :: L2)) : xs.length = n * size := (h.row_at L1 L2).1.1

/-- Its value: nil, or a slice from the head of a block on. -/
theorem Has.row_shape (L1 L2 : List Asr) (h : Has w B (L1 ++ row T size v n xs :: L2)) : (v = .slice none 0 0 ∧ n = 0) ∨ ∃ g cap, v = .slice (some ⟨g, 0, none⟩) n cap ∧ n ≤ cap ∧ cap ≤ maxLen ∧ B ≤ g ∧ g < w.heap.size := by
  obtain ⟨hr, hg⟩ := h.row_at L1 L2
  rcases hr.2 with h1 | ⟨g, cap, cur, rfl, _, _, h2, h3, _⟩
  · exact .inl h1
  · exact .inr ⟨g, cap, rfl, h2, h3, hg g rfl⟩

/-- .. in one form. -/
theorem Has.row_form (L1 L2 : List Asr) (h : Has w B (L1 ++ row T size v n xs :: L2)) : ∃ ao cap, v = .slice ao n cap ∧ n ≤ cap ∧ cap ≤ maxLen ∧ (0 < n → ∃ g, ao = some ⟨g, 0, none⟩) := by
  rcases h.row_shape L1 L2 with ⟨rfl, rfl⟩ | ⟨g, cap, rfl, h1, h2, _, _⟩
  · exact ⟨none, 0, rfl, Nat.le_refl _, Nat.zero_le _, fun h => absurd h (Nat.lt_irrefl _)⟩
  · exact ⟨_, cap, rfl, h1, h2, fun _ => ⟨g, rfl⟩⟩

theorem Has.row_cell {g cap : Nat} (L1 L2 : List Asr) (h : Has w B (L1 ++ row T size (.slice (some ⟨g, 0, none⟩) n cap) n xs :: L2)) (j : Nat) {u : Value} (hj : xs[j]? = some u) : w.cell? ⟨g, j, none⟩ = some u := by
  have := (h.row_at L1 L2).1.cells (g := g) rfl j u hj
  have e : (⟨g, 0, none⟩ : Addr).add j = ⟨g, j, none⟩ := by unfold Addr.add; split <;> simp_all
  rwa [e] at this

theorem Has.row_frozen {g cap : Nat} (L1 L2 : List Asr) (h : Has w B (L1 ++ row T size (.slice (some ⟨g, 0, none⟩) n cap) n xs :: L2)) (j : Nat) : w.frozen? ⟨g, j, none⟩ = false := by
  rcases (h.row_at L1 L2).1.2 with ⟨hv, _⟩ | ⟨g', cap', cur, hv, _, hg, _⟩
  · cases hv
  · cases hv
    simp [World.frozen?, hg]

/-- A shorter one over the same block. -/
theorem Has.row_cut {g cap k : Nat} (L1 L2 : List Asr) (h : Has w B (L1 ++ row T size (.slice (some ⟨g, 0, none⟩) n cap) n xs :: L2)) (hk : k ≤ n) : Has w B (L1 ++ row T size (.slice (some ⟨g, 0, none⟩) k cap) k (xs.take (k * size)) :: L2) := by
  refine h.cast L1 L2 (fun S ⟨hS, hr⟩ => ⟨hS, ?_⟩)
  have hl := hr.1
  have hm : k * size ≤ n * size := Nat.mul_le_mul_right _ hk
  rcases hr.2 with ⟨hv, _⟩ | ⟨g', cap', cur, hv, hb, hg, h1, h2, h3, h4⟩
  · cases hv
  · cases hv
    exact ⟨by simp; omega, .inr ⟨g, cap, cur, rfl, hb, hg, Nat.le_trans hk h1, h2, h3, by rw [← h4, List.take_take, Nat.min_eq_left hm]⟩⟩

theorem Has.row_cut1 {g cap k : Nat} (L1 L2 : List Asr) (h : Has w B (L1 ++ row T 1 (.slice (some ⟨g, 0, none⟩) n cap) n xs :: L2)) (hk : k ≤ n) : Has w B (L1 ++ row T 1 (.slice (some ⟨g, 0, none⟩) k cap) k (xs.take k) :: L2) := by
  have := Has.row_cut L1 L2 h hk
  rwa [Nat.mul_one] at this

/-- An element's cell is another one. -/
theorem Has.row_set {g cap : Nat} (L1 L2 : List Asr) (h : Has w B (L1 ++ row T size (.slice (some ⟨g, 0, none⟩) n cap) n xs :: L2)) (j : Nat) (hj : j < xs.length) (u : Value) :
    Has (w.setCell ⟨g, j, none⟩ u) B (L1 ++ row T size (.slice (some ⟨g, 0, none⟩) n cap) n (xs.set j u) :: L2) := by
  refine h.step L1 L2 (by simp [World.setCell]) (fun S ⟨hS, hr⟩ => ⟨S, ⟨hS, ?_⟩, fun k hk => .inl hk, fun k _ hk => heap_setCell_other _ _ _ _ (fun e => hk (by rw [hS, e]; simp [Value.ownBlock]))⟩)
  rcases hr.2 with ⟨hv, _⟩ | ⟨g', cap', cur, hv, hb, hg, h1, h2, h3, h4⟩
  · cases hv
  · cases hv
    have hl := hr.1
    refine ⟨by simp [hl], .inr ⟨g, cap, cur.setIfInBounds j u, rfl, hb, heap_setCell_same w g j cur T u hg, h1, h2, by simp [h3], ?_⟩⟩
    rw [Array.toList_setIfInBounds, ← h4, List.take_set]

variable {ops : Array Oper} {rest : List Oper} {o : Oper} {a : Act} {Q : Exit → Act → World → Prop}

theorem wpList_append_row (L1 L2 : List Asr) (hH : Has w B (L1 ++ row T size v n xs :: L2)) (hgd : o.guard = none) (s x : Operand) (t : TypeId)
    (ho : o.op = .call { callee := .builtin .append, args := #[s, x], argTypes := #[t, t] })
    (i : TypeInfo) (z : Value) (bytes : Nat) (ht : P.underlying t = some (.slice T)) (hi : P.info? T = some i) (hz : i.zero = some z)
    (hsize : i.size = size) (hby : i.bytes = bytes) (hzs : z.cells.size = size) (hsz : 0 < size) (hs : a.eval s = v)
    (ad : Addr) (m c : Nat) (news : List Value) (hx : a.eval x = .slice (some ad) m c) (hl : news.length = m * size) (hnews : ∀ j u, news[j]? = some u → w.cell? (ad.add j) = some u) (h1 : ∀ u ∈ news, u.oneCell' = true)
    (hm : 0 < m) (h63 : n + m ≤ maxLen) (hbytes : (n + m) * bytes ≤ 140737488355328)
    (hK : ∀ g cap w', Has w' B (L1 ++ row T size (.slice (some ⟨g, 0, none⟩) (n + m) cap) (n + m) (xs ++ news) :: L2) → Below B w w' → wpList P ops Q rest (a.put o.dst (.slice (some ⟨g, 0, none⟩) (n + m) cap)) w') : wpList P ops Q (o :: rest) a w := by
  obtain ⟨hr, hg⟩ := hH.row_at L1 L2
  have fresh : ∀ v' w', w'.ownsRow w.heap.size T size v' (n + m) (xs ++ news) → w.grownBy w' none → wpList P ops Q rest (a.put o.dst v') w' := by
    intro v' w' hown hgr
    rcases hown.2 with ⟨_, h⟩ | ⟨g, cap, cur, rfl, hb, hgg, hrest⟩
    · omega
    · refine hK g cap w' ?_ ((Below.refl _ _).grown hgr hH.le (fun k hk => by cases hk))
      exact hH.step L1 L2 hgr.size (fun S _ => ⟨[g], ⟨by simp [Value.ownBlock], hown.1, .inr ⟨g, cap, cur, rfl, Nat.zero_le _, hgg, hrest⟩⟩, fun k hk => by
        simp at hk
        subst hk
        exact .inr hb, fun k hk _ => hgr.block k hk (by simp)⟩)
  rcases hr.2 with ⟨rfl, rfl⟩ | ⟨g, cap, cur, rfl, _, hgg, h2, h3, h4, h5⟩
  · have hx0 : xs = [] := List.eq_nil_of_length_eq_zero (by simpa using hr.1)
    subst hx0
    exact wpList_append_grows w hgd s x t ho T i z size bytes ht hi hz hsize hby hzs hsz none 0 0 [] hs (fun _ => ⟨rfl, rfl⟩) (by simp) (by intro b hb; cases hb) ad m c news hx hl hnews h1 (by omega) h63 hbytes fresh
  · by_cases hc : n + m ≤ cap
    · refine wpList_append_fits w hgd s x t ho 0 T i size ht hi hsize g n cap xs hs hr ad m c news hx hl hnews h1 hc (fun w' hown hgr => hK g cap w' ?_ ?_)
      · exact hH.step L1 L2 hgr.size (fun S ⟨hS, _⟩ => ⟨[g], ⟨by simp [Value.ownBlock], hown⟩, fun k hk => .inl (by rw [hS]; simpa [Value.ownBlock] using hk), fun k hk hk' => hgr.block k hk (fun e => hk' (by rw [hS]; injection e with e; simp [Value.ownBlock, e]))⟩)
      · exact (Below.refl _ _).grown hgr hH.le (fun k hk => by cases hk; exact (hg g rfl).1)
    · exact wpList_append_grows w hgd s x t ho T i z size bytes ht hi hz hsize hby hzs hsz (some ⟨g, 0, none⟩) n cap xs hs (by intro h; cases h) hr.1 (fun b hb j u hu => by cases hb; exact hr.cells (g := g) rfl j u hu) ad m c news hx hl hnews h1 (by omega) h63 hbytes fresh
/-- 'append(dst, src...)': dst not nil, src whatever. -/
theorem wpList_append_rows {g0 cap0 : Nat} (L1 L2 : List Asr) (hH : Has w B (L1 ++ row T size (.slice (some ⟨g0, 0, none⟩) n cap0) n xs :: L2)) (hgd : o.guard = none) (s x : Operand) (t : TypeId)
    (ho : o.op = .call { callee := .builtin .append, args := #[s, x], argTypes := #[t, t] })
    (i : TypeInfo) (z : Value) (bytes : Nat) (ht : P.underlying t = some (.slice T)) (hi : P.info? T = some i) (hz : i.zero = some z)
    (hsize : i.size = size) (hby : i.bytes = bytes) (hzs : z.cells.size = size) (hsz : 0 < size) (hs : a.eval s = .slice (some ⟨g0, 0, none⟩) n cap0)
    (ao : Option Addr) (m c : Nat) (news : List Value) (hx : a.eval x = .slice ao m c) (hnone : ao = none → m = 0 ∧ c = 0) (hl : news.length = m * size) (hnews : ∀ ad, ao = some ad → ∀ j u, news[j]? = some u → w.cell? (ad.add j) = some u) (h1 : ∀ u ∈ news, u.oneCell' = true)
    (h63 : n + m ≤ maxLen) (hbytes : (n + m) * bytes ≤ 140737488355328)
    (hK : ∀ g cap w', Has w' B (L1 ++ row T size (.slice (some ⟨g, 0, none⟩) (n + m) cap) (n + m) (xs ++ news) :: L2) → Below B w w' → wpList P ops Q rest (a.put o.dst (.slice (some ⟨g, 0, none⟩) (n + m) cap)) w') : wpList P ops Q (o :: rest) a w := by
  by_cases hm : 0 < m
  · cases ao with
    | none => have := (hnone rfl).1; omega
    | some ad => exact wpList_append_row L1 L2 hH hgd s x t ho i z bytes ht hi hz hsize hby hzs hsz hs ad m c news hx hl (hnews ad rfl) h1 hm h63 hbytes hK
  · obtain rfl : m = 0 := by omega
    obtain ⟨hr, hg⟩ := hH.row_at L1 L2
    rcases hr.2 with ⟨hv, _⟩ | ⟨g, cap, cur, hv, _, hgg, h2, h3, h4, h5⟩
    · cases hv
    · cases hv
      refine wpList_append_fits_any w hgd s x t ho 0 T i size ht hi hsize g0 n cap0 xs hs hr ao 0 c news hx hl hnone hnews h1 (by omega) (fun w' hown hgr => hK g0 cap0 w' ?_ ?_)
      · exact hH.step L1 L2 hgr.size (fun S ⟨hS, _⟩ => ⟨[g0], ⟨by simp [Value.ownBlock], hown⟩, fun k hk => .inl (by rw [hS]; simpa [Value.ownBlock] using hk), fun k hk hk' => hgr.block k hk (fun e => hk' (by rw [hS]; injection e with e; simp [Value.ownBlock, e]))⟩)
      · exact (Below.refl _ _).grown hgr hH.le (fun k hk => by cases hk; exact (hg g0 rfl).1)

/-- A new slice without elements, that is not nil. -/
theorem Has.newrow {L : List Asr} (h : Has w B L) (b : Nat) (T : TypeId) (size : Nat) (hb : w.heap.size = b) : Has (w.alloc (.cells #[] T)) B (row T size (.slice (some ⟨b, 0, none⟩) 0 0) 0 [] :: L) := hb ▸
  h.new _ (by simp) (fun k hk => Below.heap_alloc w _ k hk) ⟨[w.heap.size], ⟨rfl, World.ownsRow_made w #[] 0 (Nat.zero_le _) (Nat.zero_le _) (by simp)⟩, by simp⟩
end

/-! ### contracts -/
/-- How a call ends that hands back v x, and has A' x then, beside the rest X. -/
def Ends {α : Type} (v : α → Value) (A' : α → List Asr) (X : List Asr) (B : Nat) (w : World) (e : Ending) (w' : World) : Prop := ∃ x, e = .returned (v x) ∧ Has w' B (A' x ++ X) ∧ Below B w w'

/-- A call that asks for A, hands back v x and leaves A' x, whatever else there is. -/
def Does {α : Type} (P : Program) (f : FuncId) (args : Array Value) (A : List Asr) (v : α → Value) (A' : α → List Asr) : Prop :=
  ∀ w B X, Has w B (A ++ X) → Calls P f args w (Ends v A' X B w)

section
variable {α : Type} {P : Program} {f : FuncId} {args : Array Value} {w : World} {B : Nat} {v : α → Value}

/-- The contract of a call that turns one thing, at its place in a list. -/
theorem Does.at {A : Asr} {A' : α → Asr} (h : Does P f args [A] v (fun x => [A' x])) (L1 L2 : List Asr) (hH : Has w B (L1 ++ A :: L2)) :
    Calls P f args w fun e w' => ∃ x, e = .returned (v x) ∧ Has w' B (L1 ++ A' x :: L2) ∧ Below B w w' :=
  (h w B (L1 ++ L2) (hH.front L1 L2)).mono fun _ _ ⟨x, he, hh, hb⟩ => ⟨x, he, Has.back L1 L2 hh, hb⟩

/-- .. that makes a thing. -/
theorem Does.mk {A' : α → Asr} (h : Does P f args [] v (fun x => [A' x])) {L : List Asr} (hH : Has w B L) :
    Calls P f args w fun e w' => ∃ x, e = .returned (v x) ∧ Has w' B (A' x :: L) ∧ Below B w w' :=
  (h w B L hH).mono fun _ _ ⟨x, he, hh, hb⟩ => ⟨x, he, hh, hb⟩
end

/-- A call that turns nothing of what was there, beside what the call's own caller holds. -/
theorem keeps {P : Program} {f : FuncId} {args : Array Value} {w : World} {B : Nat} {L : List Asr} {v : Value} (h : Calls P f args w fun e w' => e = .returned v ∧ Below w.heap.size w w') (hH : Has w B L) :
    Calls P f args w fun e w' => e = .returned v ∧ Has w' B L ∧ Below B w w' :=
  h.mono fun _ _ ⟨he, hb⟩ => ⟨he, hH.below hb, hb.mono hH.le⟩

/-! ### a slice that came in, and is only read -/
/-- The elements' cells, one behind the other ('size' cells each). -/
structure ArgRow (w : World) (size : Nat) (a : Option Addr) (len : Nat) (cs : List Value) : Prop where
  lc : cs.length = len * size
  small : len ≤ 9223372036854775807
  mem : 0 < len → ∃ b o, a = some ⟨b, o, none⟩ ∧ b < w.heap.size ∧ ∀ j u, cs[j]? = some u → w.cell? ⟨b, o + j, none⟩ = some u

/-- A cell of it, in a later world. -/
theorem ArgRow.later {w w' : World} {b o : Nat} {cs : List Value} (hb : b < w.heap.size) (hc : ∀ j u, cs[j]? = some u → w.cell? ⟨b, o + j, none⟩ = some u) (h : Below w.heap.size w w') (j : Nat) {u : Value} (hj : cs[j]? = some u) : w'.cell? ⟨b, o + j, none⟩ = some u :=
  (h.cell (p := ⟨b, o + j, none⟩) hb).trans (hc j u hj)

/-- Cell i of element k. -/
theorem flat_get {α : Type} (f : α → List Value) (size : Nat) (hf : ∀ x, (f x).length = size) : ∀ (l : List α) (k i : Nat) (x : α), l[k]? = some x → i < size → (l.flatMap f)[k * size + i]? = (f x)[i]?
  | [], _, _, _, h, _ => by simp at h
  | y :: l, 0, i, x, h, hi => by
    simp at h
    subst h
    rw [List.flatMap_cons, List.getElem?_append_left (by rw [hf]; omega)]
    simp
  | y :: l, k + 1, i, x, h, hi => by
    rw [List.flatMap_cons, List.getElem?_append_right (by rw [hf, Nat.add_mul]; omega), hf]
    rw [show (k + 1) * size + i - size = k * size + i from by rw [Nat.add_mul]; omega]
    exact flat_get f size hf l k i x (by simpa using h) hi

theorem flat_length {α : Type} (f : α → List Value) (size : Nat) (hf : ∀ x, (f x).length = size) (l : List α) : (l.flatMap f).length = l.length * size := by
  induction l with
  | nil => simp
  | cons x l ih => rw [List.flatMap_cons, List.length_append, ih, hf, List.length_cons, Nat.add_mul]; omega

/-- Cell i of element k of a slice that came in, in a later world, as a walk spells it. -/
theorem ArgRow.elem {α : Type} {f : α → List Value} {size : Nat} (hf : ∀ x, (f x).length = size) {l : List α} {w w' : World} {b o : Nat} (hb : b < w.heap.size) (hc : ∀ j u, (l.flatMap f)[j]? = some u → w.cell? ⟨b, o + j, none⟩ = some u)
    (h : Below w.heap.size w w') (k i : Nat) (x : α) (hx : l[k]? = some x) {u : Value} (hu : (f x)[i]? = some u) : w'.cell? ⟨b, o + k * size + i, none⟩ = some u := by
  have hi : i < size := by rw [← hf x]; exact (List.getElem?_eq_some_iff.1 hu).1
  have := flat_get f size hf l k i x hx hi
  rw [Nat.add_assoc]
  exact ArgRow.later hb hc h _ (this.trans hu)

/-- The cells of an array of bools. -/
def boolsA (l : List Bool) : Array Value := (l.map Value.bool).toArray
/-- An array of bools at its beginning. (A plain definition: a walk would write the list out.) -/
def falses (n : Nat) : List Bool := List.replicate n false
theorem falses_length (n : Nat) : (falses n).length = n := by simp [falses]
theorem falses_get {n i : Nat} (h : i < n) : (falses n)[i]? = some false := by simp [falses, h]
theorem boolsA_get {l : List Bool} {i : Nat} {x : Bool} (h : l[i]? = some x) : (boolsA l)[i]? = some (.bool x) := by simp [boolsA, h]
theorem boolsA_set (l : List Bool) (i : Nat) (x : Bool) : (boolsA l).setIfInBounds i (.bool x) = boolsA (l.set i x) := by
  simp [boolsA, List.map_set]

/- From here on 'Has' is met by its laws alone: an arm that does not fit fails at once. -/
attribute [irreducible] Has

end Go.Proofs.Yteeapkndappnoaa

/-
  Contracts of package free (layer 2): a list of free frames, as the list of those that are free, the one that is taken next last.
-/
namespace Go.Proofs.Yteeapkndappnoaa
open Go.RowKit
set_option linter.unusedVariables false
set_option linter.unusedSimpArgs false

/-- The frames that never were taken, the least last. -/
def freshL (first many fresh : Int) : List Int := (List.range (many - fresh).toNat).map (fun i : Nat => first + many - 1 - (i : Int))

structure FreeS where
  m : Nat
  v : Value
  fresh : Int
  back : List Int
  g : Int → Option Int
  n : Nat

structure FreeInv (first many : Int) (s : FreeS) (F : List Int) : Prop where
  a1 : 0 ≤ first
  a2 : 0 ≤ many
  a3 : first ≤ 256
  a4 : many ≤ 256 - first
  a5 : 0 ≤ s.fresh
  a6 : s.fresh ≤ many
  eq : F = freshL first many s.fresh ++ s.back
  nd : s.back.Nodup
  rg : ∀ x ∈ s.back, first ≤ x ∧ x < first + s.fresh
  tk : ∀ x, (s.g x).isSome = decide (first ≤ x ∧ x < first + s.fresh ∧ x ∉ s.back)
  ln : (s.n : Int) = s.fresh - s.back.length

/-- The program's list, at block b. -/
def FreeA (b : Nat) (first many : Int) (F : List Int) : Asr :=
  Asr.ex fun s : FreeS => Asr.and (FreeInv first many s F) <| Asr.all
    [blk b 120 #[.int .i64 first, .int .i64 many, .int .i64 s.fresh, s.v, .map (some s.m)], imap Try.prog 3 s.m s.g s.n, row 3 1 s.v s.back.length (s.back.map (Value.int .i64))]

theorem zeroInt (w : World) : (zeroValue 3).run Try.prog w = .ok (.int .i64 0) w := by kernel_rfl

theorem FreeNew_ok (first many : Int) (h1 : 0 ≤ first) (h2 : 0 ≤ many) (h3 : first ≤ 256) (h4 : many ≤ 256 - first) :
    Does Try.prog 46 #[.int .i64 first, .int .i64 many] [] (fun b : Nat => .pointer (some ⟨b, 0, none⟩)) (fun b => [FreeA b first many (freshL first many 0)]) := by
  intro w B X hH
  have hH : Has w B X := hH
  have hmm := @run_makeMap Try.prog
  have e1 : decide (first < 0) = false := by simpa using h1
  have e2 : decide (many < 0) = false := by simpa using h2
  have e3 : decide (256 < first) = false := by simpa using h3
  have e4 : decide (256 - first < many) = false := by simpa using h4
  have hM := hH.newmap w.heap.size Try.prog 3 rfl
  have hN := hM.newblk (w.heap.size + 1) 120 #[.int .i64 first, .int .i64 many, .int .i64 0, .slice none 0 0, .map (some w.heap.size)] (by simp)
  have hB := below_new (below_new (Below.refl B w) hH (.map #[] 0)) hM (.cells #[.int .i64 first, .int .i64 many, .int .i64 0, .slice none 0 0, .map (some w.heap.size)] 120)
  go_enter Try.func46, Try.ntmps46
  go_wp2
  go_ret
  refine ⟨w.heap.size + 1, rfl, ?_, hB⟩
  refine Has.shut_ex ⟨w.heap.size, .slice none 0 0, 0, [], fun _ => none, 0⟩ (Has.shut_and ?_ (Has.shut_all _ ?_))
  · exact ⟨h1, h2, h3, h4, by simp, by simpa using h2, by simp, by simp, by simp, fun x => by simp, by simp⟩
  · exact (hN.nilrow 3 1).back [_, _] X

/-- Other numbers: nothing is made. -/
theorem FreeNew_no (first many : Int) (h : first < 0 ∨ many < 0 ∨ 256 < first ∨ 256 - first < many) (w : World) :
    Calls Try.prog 46 #[.int .i64 first, .int .i64 many] w fun e w' => e = .returned (.pointer none) ∧ w = w' := by
  by_cases h1 : first < 0
  · have e1 : decide (first < 0) = true := by simpa using h1
    clear h
    go_enter Try.func46, Try.ntmps46
    go_wp2
    go_ret
    exact ⟨rfl, rfl⟩
  · have e1 : decide (first < 0) = false := by simpa using h1
    by_cases h2 : many < 0
    · have e2 : decide (many < 0) = true := by simpa using h2
      clear h
      go_enter Try.func46, Try.ntmps46
      go_wp2
      go_ret
      exact ⟨rfl, rfl⟩
    · have e2 : decide (many < 0) = false := by simpa using h2
      by_cases h3 : 256 < first
      · have e3 : decide (256 < first) = true := by simpa using h3
        clear h
        go_enter Try.func46, Try.ntmps46
        go_wp2
        go_ret
        exact ⟨rfl, rfl⟩
      · have e3 : decide (256 < first) = false := by simpa using h3
        have h4 : 256 - first < many := by omega
        have e4 : decide (256 - first < many) = true := by simpa using h4
        have h5 : 0 ≤ first := by omega
        have h6 : first ≤ 256 := by omega
        clear h
        go_enter Try.func46, Try.ntmps46
        go_wp2
        go_ret
        exact ⟨rfl, rfl⟩

/-- A list opened: what it is made of. -/
theorem FreeA.open {b : Nat} {first many : Int} {F : List Int} {w : World} {B : Nat} {X : List Asr} (hH : Has w B (FreeA b first many F :: X)) : ∃ s : FreeS, FreeInv first many s F ∧
    Has w B (blk b 120 #[.int .i64 first, .int .i64 many, .int .i64 s.fresh, s.v, .map (some s.m)] :: imap Try.prog 3 s.m s.g s.n :: row 3 1 s.v s.back.length (s.back.map (Value.int .i64)) :: X) := by
  obtain ⟨s, hH⟩ := hH.open_ex
  obtain ⟨hI, hH⟩ := hH.open_and
  exact ⟨s, hI, hH.open_all⟩

theorem FreeA.shut {b : Nat} {first many : Int} {F : List Int} {w : World} {B : Nat} {X : List Asr} (m : Nat) (v : Value) (fresh : Int) (back : List Int) (g : Int → Option Int) (n : Nat)
    (hI : FreeInv first many ⟨m, v, fresh, back, g, n⟩ F)
    (hH : Has w B (blk b 120 #[.int .i64 first, .int .i64 many, .int .i64 fresh, v, .map (some m)] :: imap Try.prog 3 m g n :: row 3 1 v back.length (back.map (Value.int .i64)) :: X)) : Has w B (FreeA b first many F :: X) :=
  Has.shut_ex ⟨m, v, fresh, back, g, n⟩ (Has.shut_and hI (Has.shut_all [_, _, _] hH))

/-- The three cells and marks of a list's own block. -/
theorem free_cells {b m : Nat} {first many fresh : Int} {v : Value} {w : World} {B : Nat} {X : List Asr} (hH : Has w B (blk b 120 #[.int .i64 first, .int .i64 many, .int .i64 fresh, v, .map (some m)] :: X)) :
    w.cell? ⟨b, 0, none⟩ = some (.int .i64 first) ∧ w.cell? ⟨b, 1, none⟩ = some (.int .i64 many) ∧ w.cell? ⟨b, 2, none⟩ = some (.int .i64 fresh) ∧ w.cell? ⟨b, 3, none⟩ = some v ∧ w.cell? ⟨b, 4, none⟩ = some (.map (some m)) ∧
    w.frozen? ⟨b, 2, none⟩ = false ∧ w.frozen? ⟨b, 3, none⟩ = false :=
  ⟨Has.cell [] _ hH 0 rfl, Has.cell [] _ hH 1 rfl, Has.cell [] _ hH 2 rfl, Has.cell [] _ hH 3 rfl, Has.cell [] _ hH 4 rfl, Has.frozen [] _ hH 2, Has.frozen [] _ hH 3⟩

set_option maxHeartbeats 400000 in
theorem take_back (b m gb k cap n : Nat) (first many fresh x : Int) (g : Int → Option Int) (xs : List Value) (w : World) (B : Nat) (X : List Asr)
    (b1 : 0 ≤ first) (b2 : first ≤ 256) (b3 : 0 ≤ fresh) (b4 : fresh ≤ 256) (x1 : 0 ≤ x) (x2 : x ≤ 1000) (hn : n ≤ 1000) (hk : k ≤ 1000) (hkc : k + 1 ≤ cap)
    (hxs : xs[k]? = some (.int .i64 x))
    (hH : Has w B (blk b 120 #[.int .i64 first, .int .i64 many, .int .i64 fresh, .slice (some ⟨gb, 0, none⟩) (k + 1) cap, .map (some m)] :: imap Try.prog 3 m g n :: row 3 1 (.slice (some ⟨gb, 0, none⟩) (k + 1) cap) (k + 1) xs :: X)) :
    Calls Try.prog 57 #[.pointer (some ⟨b, 0, none⟩)] w (Ends (fun y : Int => .tuple #[.int .i64 x, .bool true])
      (fun y => [blk b 120 #[.int .i64 first, .int .i64 many, .int .i64 fresh, .slice (some ⟨gb, 0, none⟩) k cap, .map (some m)], imap Try.prog 3 m (upd g x (some y)) (more g x n), row 3 1 (.slice (some ⟨gb, 0, none⟩) k cap) k (xs.take k)]) X B w) := by
  obtain ⟨c0, c1, c2, c3, c4, f2, f3⟩ := free_cells hH
  have hx := Has.row_cell [_, _] _ hH k hxs
  have hcut := Has.row_cut1 [_, _] _ hH (k := k) (by omega)
  have hw : (Lit.int .i64 x).wf = true := WalkArith.wf_i64 (by omega)
  clear hxs hH
  go_enter Try.func57, Try.ntmps57
  go_wp2
  go_quiet (fail)
  go_wp2_with (first
    | (at_lookup; refine wpList_map_get [_] _ ((hcut.drewN _).set [] _ 3 _) rfl _ _ 118 rfl Try.underlying118 Try.underlying3 (zeroInt _) rfl _ rfl hw ?_)
    | (at_mapUpdate; refine wpList_map_put [_] _ ((hcut.drewN _).set [] _ 3 _) rfl _ _ _ 118 rfl Try.underlying118 Try.underlying3 rfl _ _ rfl rfl hw (wrap64_wf _) (by unfold maxLen; omega) ?_; intro w1 hH1 hB1)
    | go_in)
  go_ret2
  exact ⟨_, rfl, hH1, (below_set (below_drewN (Below.refl B w) _) [] _ (hcut.drewN _) 3 _).trans hB1⟩

set_option maxHeartbeats 400000 in
theorem take_fresh (b m c n : Nat) (a : Option Addr) (first many fresh : Int) (g : Int → Option Int) (w : World) (B : Nat) (X : List Asr)
    (b1 : 0 ≤ first) (b2 : first ≤ 256) (b3 : 0 ≤ fresh) (b4 : fresh ≤ 256) (hlt : fresh < many) (hn : n ≤ 1000)
    (hH : Has w B (blk b 120 #[.int .i64 first, .int .i64 many, .int .i64 fresh, .slice a 0 c, .map (some m)] :: imap Try.prog 3 m g n :: X)) :
    Calls Try.prog 57 #[.pointer (some ⟨b, 0, none⟩)] w (Ends (fun y : Int => .tuple #[.int .i64 (first + fresh), .bool true])
      (fun y => [blk b 120 #[.int .i64 first, .int .i64 many, .int .i64 (fresh + 1), .slice a 0 c, .map (some m)], imap Try.prog 3 m (upd g (first + fresh) (some y)) (more g (first + fresh) n)]) X B w) := by
  obtain ⟨c0, c1, c2, c3, c4, f2, f3⟩ := free_cells hH
  have hd : decide (fresh < many) = true := by simpa using hlt
  have hw : (Lit.int .i64 (first + fresh)).wf = true := WalkArith.wf_i64 (by omega)
  go_enter Try.func57, Try.ntmps57
  go_wp2
  go_quiet (fail)
  go_wp2
  go_quiet (fail)
  go_wp2_with (first
    | (at_lookup; refine wpList_map_get [_] _ ((hH.drewN _).set [] _ 2 _) rfl _ _ 118 rfl Try.underlying118 Try.underlying3 (zeroInt _) rfl _ rfl hw ?_)
    | (at_mapUpdate; refine wpList_map_put [_] _ ((hH.drewN _).set [] _ 2 _) rfl _ _ _ 118 rfl Try.underlying118 Try.underlying3 rfl _ _ rfl rfl hw (wrap64_wf _) (by unfold maxLen; omega) ?_; intro w1 hH1 hB1)
    | go_in)
  go_ret2
  exact ⟨_, rfl, hH1, (below_set (below_drewN (Below.refl B w) _) [] _ (hH.drewN _) 2 _).trans hB1⟩

set_option maxHeartbeats 400000 in
theorem take_none (b m c n : Nat) (a : Option Addr) (first many fresh : Int) (g : Int → Option Int) (w : World) (B : Nat) (X : List Asr)
    (b1 : 0 ≤ first) (b2 : first ≤ 256) (b3 : 0 ≤ fresh) (b4 : fresh ≤ 256) (hlt : ¬ fresh < many)
    (hH : Has w B (blk b 120 #[.int .i64 first, .int .i64 many, .int .i64 fresh, .slice a 0 c, .map (some m)] :: imap Try.prog 3 m g n :: X)) :
    Calls Try.prog 57 #[.pointer (some ⟨b, 0, none⟩)] w (Ends (fun y : Unit => .tuple #[.int .i64 0, .bool false])
      (fun y => [blk b 120 #[.int .i64 first, .int .i64 many, .int .i64 fresh, .slice a 0 c, .map (some m)], imap Try.prog 3 m g n]) X B w) := by
  obtain ⟨c0, c1, c2, c3, c4, f2, f3⟩ := free_cells hH
  have hd : decide (fresh < many) = false := by simpa using hlt
  go_enter Try.func57, Try.ntmps57
  go_wp2
  go_quiet (fail)
  go_wp2
  go_quiet (fail)
  go_wp2
  go_ret2
  exact ⟨(), rfl, (hH.drewN _).drewN _, below_drewN (below_drewN (Below.refl B w) _) _⟩

theorem infoInt : (Try.prog.info? 3).map (fun i => (i.zero, i.size, i.bytes)) = some (some (.int .i64 0), 1, 8) := by kernel_rfl

set_option maxHeartbeats 400000 in
theorem give_no (b m n : Nat) (v : Value) (first many fresh f : Int) (g : Int → Option Int) (w : World) (B : Nat) (X : List Asr) (hw : (Lit.int .i64 f).wf = true) (hg : (g f).isSome = false)
    (hH : Has w B (blk b 120 #[.int .i64 first, .int .i64 many, .int .i64 fresh, v, .map (some m)] :: imap Try.prog 3 m g n :: X)) :
    Calls Try.prog 55 #[.pointer (some ⟨b, 0, none⟩), .int .i64 f] w fun e w' => e = .returned (.bool false) ∧ w = w' := by
  obtain ⟨c0, c1, c2, c3, c4, f2, f3⟩ := free_cells hH
  go_enter Try.func55, Try.ntmps55
  go_wp2_with (first
    | (at_lookup; refine wpList_map_get_ok [_] _ hH rfl _ _ 118 rfl Try.underlying118 Try.underlying3 (zeroInt _) rfl _ rfl hw ?_)
    | go_in)
  go_ret
  exact ⟨rfl, rfl⟩

set_option maxHeartbeats 400000 in
theorem give_yes (b m n k : Nat) (v : Value) (first many fresh f : Int) (g : Int → Option Int) (xs : List Value) (w : World) (B : Nat) (X : List Asr) (hw : (Lit.int .i64 f).wf = true) (hg : (g f).isSome = true) (hk : k ≤ 1000)
    (hH : Has w B (blk b 120 #[.int .i64 first, .int .i64 many, .int .i64 fresh, v, .map (some m)] :: imap Try.prog 3 m g n :: row 3 1 v k xs :: X)) :
    Calls Try.prog 55 #[.pointer (some ⟨b, 0, none⟩), .int .i64 f] w (Ends (fun _ : Nat × Nat => .bool true)
      (fun y => [blk b 120 #[.int .i64 first, .int .i64 many, .int .i64 fresh, .slice (some ⟨y.1, 0, none⟩) (k + 1) y.2, .map (some m)], imap Try.prog 3 m (upd g f none) (less g f n), row 3 1 (.slice (some ⟨y.1, 0, none⟩) (k + 1) y.2) (k + 1) (xs ++ [.int .i64 f])]) X B w) := by
  obtain ⟨c0, c1, c2, c3, c4, f2, f3⟩ := free_cells hH
  obtain ⟨i0, hi, hz0, hz1, hz2⟩ := info_parts infoInt
  go_enter Try.func55, Try.ntmps55
  go_wp2_with (first
    | (at_lookup; refine wpList_map_get_ok [_] _ hH rfl _ _ 118 rfl Try.underlying118 Try.underlying3 (zeroInt _) rfl _ rfl hw ?_)
    | (at_delete; refine wpList_map_del [_] _ hH rfl _ _ 118 rfl Try.underlying118 Try.underlying3 rfl _ rfl hw ?_; intro w1 hH1 hB1; obtain ⟨d0, d1, d2, d3, d4, e2, e3⟩ := free_cells hH1)
    | (at_builtin; refine wpList_append_row [_, _] _ (hH1.alloc _) rfl _ _ 36 rfl i0 (.int .i64 0) 8 Try.underlying36 hi hz0 hz1 hz2 rfl (by decide) rfl ⟨w1.heap.size, 0, none⟩ 1 1 [.int .i64 f] rfl rfl (cell_one_new _ _ _) (by simp [Value.oneCell']) (by decide) (by unfold maxLen; omega) (by omega) ?_; intro ga cap w2 hH2 hB2; obtain ⟨g0, g1, g2, g3, g4, h2, h3⟩ := free_cells hH2)
    | go_in)
  go_ret
  exact ⟨(ga, cap), rfl, hH2.set [] _ 3 _, hB1.trans (below_set ((below_new (Below.refl B w1) hH1 _).trans hB2) [] _ hH2 3 _)⟩

def hasB (first many f : Int) (tk : Bool) : Bool := decide (first ≤ f) && decide (f < first + many) && !tk

set_option maxHeartbeats 400000 in
theorem left_walk (b m n : Nat) (v : Value) (first many fresh : Int) (g : Int → Option Int) (w : World) (B : Nat) (X : List Asr) (b3 : 0 ≤ many) (b4 : many ≤ 256) (hn : n ≤ 1000)
    (hH : Has w B (blk b 120 #[.int .i64 first, .int .i64 many, .int .i64 fresh, v, .map (some m)] :: imap Try.prog 3 m g n :: X)) :
    Calls Try.prog 59 #[.pointer (some ⟨b, 0, none⟩)] w fun e w' => e = .returned (.int .i64 (many - n)) ∧ ∃ nq, w' = w.drewN nq := by
  obtain ⟨c0, c1, c2, c3, c4, f2, f3⟩ := free_cells hH
  have hl : ∀ nq ty, Sem.run Try.prog (Builtin.len_ #[118] ty #[.map (some m)]) (w.drewN nq) = .ok (.int .i64 n) (w.drewN nq) := by
    intro nq ty
    obtain ⟨⟨D, hD, hs, _⟩, _⟩ := (hH.drewN nq).map_at [_] _
    rw [← hs]
    exact hD.len Try.underlying118 ty
  go_enter Try.func59, Try.ntmps59
  go_wp2
  go_quiet (fail)
  go_wp2
  go_ret
  exact ⟨rfl, _, rfl⟩

/-! ### what the pure steps keep -/
theorem freshL_end (first many : Int) : freshL first many many = [] := by simp [freshL]
theorem freshL_step (first many fresh : Int) (h0 : fresh < many) : freshL first many fresh = freshL first many (fresh + 1) ++ [first + fresh] := by
  unfold freshL
  obtain ⟨d, hd⟩ : ∃ d : Nat, many - fresh = d + 1 := ⟨(many - fresh - 1).toNat, by omega⟩
  rw [show (many - fresh).toNat = d + 1 from by omega, show (many - (fresh + 1)).toNat = d from by omega, List.range_succ, List.map_append]
  simp
  omega
theorem freshL_mem (first many fresh x : Int) : x ∈ freshL first many fresh ↔ first + fresh ≤ x ∧ x < first + many := by
  unfold freshL
  simp only [List.mem_map, List.mem_range]
  constructor
  · rintro ⟨i, hi, rfl⟩; omega
  · intro h; exact ⟨(first + many - 1 - x).toNat, by omega, by omega⟩
theorem freshL_length (first many fresh : Int) : (freshL first many fresh).length = (many - fresh).toNat := by simp [freshL]

theorem FreeInv.mem {first many : Int} {s : FreeS} {F : List Int} (h : FreeInv first many s F) (x : Int) : x ∈ F ↔ first ≤ x ∧ x < first + many ∧ (s.g x).isSome = false := by
  have h5 := h.a5
  have h6 := h.a6
  rw [h.eq, List.mem_append, freshL_mem, h.tk]
  constructor
  · rintro (h1 | h1)
    · refine ⟨by omega, h1.2, ?_⟩
      simp; intro h2 h3; omega
    · have := h.rg x h1
      exact ⟨this.1, by omega, by simp [h1]⟩
  · rintro ⟨h1, h2, h3⟩
    simp at h3
    by_cases hx : x < first + s.fresh
    · exact .inr (h3 h1 hx)
    · exact .inl ⟨by omega, h2⟩

theorem FreeInv.length {first many : Int} {s : FreeS} {F : List Int} (h : FreeInv first many s F) : (F.length : Int) = many - s.n := by
  have h5 := h.a5
  have h6 := h.a6
  rw [h.eq, List.length_append, freshL_length, h.ln]
  omega

theorem FreeInv.nodup {first many : Int} {s : FreeS} {F : List Int} (h : FreeInv first many s F) : F.Nodup := by
  rw [h.eq, List.nodup_append]
  refine ⟨?_, h.nd, fun a ha b hb e => ?_⟩
  · unfold freshL
    exact List.pairwise_map.2 (List.Pairwise.imp (fun h e => h (by omega)) List.nodup_range)
  · subst e
    have := (freshL_mem _ _ _ _).1 ha
    have := h.rg _ hb
    omega

end Go.Proofs.Yteeapkndappnoaa

/-
  Contracts of package free, said of the list of the frames that are free.
-/
namespace Go.Proofs.Yteeapkndappnoaa
open Go.RowKit
set_option linter.unusedVariables false
set_option linter.unusedSimpArgs false

/-- What is known of a list beside its frames. -/
structure FreeFits (first many : Int) (F : List Int) : Prop where
  a1 : 0 ≤ first
  a2 : 0 ≤ many
  a3 : first ≤ 256
  a4 : many ≤ 256 - first
  nd : F.Nodup
  rg : ∀ x ∈ F, first ≤ x ∧ x < first + many
  ln : (F.length : Int) ≤ many

theorem Has.free {b : Nat} {first many : Int} {F : List Int} {w : World} {B : Nat} (L1 L2 : List Asr) (hH : Has w B (L1 ++ FreeA b first many F :: L2)) : FreeFits first many F := by
  obtain ⟨s, hI, _⟩ := FreeA.open (hH.front L1 L2)
  exact ⟨hI.a1, hI.a2, hI.a3, hI.a4, hI.nodup, fun x hx => ⟨((hI.mem x).1 hx).1, ((hI.mem x).1 hx).2.1⟩, by have := hI.length; omega⟩

def takeV (F : List Int) : Int := F.getLast?.getD 0
def takeB (F : List Int) : Bool := !F.isEmpty

theorem FreeTake (b : Nat) (first many : Int) (F : List Int) :
    Does Try.prog 57 #[.pointer (some ⟨b, 0, none⟩)] [FreeA b first many F] (fun _ : Unit => .tuple #[.int .i64 (takeV F), .bool (takeB F)]) (fun _ => [FreeA b first many F.dropLast]) := by
  intro w B X hX
  obtain ⟨⟨m, v, fresh, back, g, n⟩, hI, hH⟩ := FreeA.open hX
  clear hX
  have hlen := hI.length
  obtain ⟨a1, a2, a3, a4, a5, a6, eq, nd, rg, tk, ln⟩ := hI
  dsimp only at *
  rcases List.eq_nil_or_concat back with rfl | ⟨bs, x, rfl⟩
  · rw [List.append_nil] at eq
    have hv : ∃ a c, v = .slice a 0 c := by
      rcases Has.row_shape [_, _] _ hH with ⟨rfl, _⟩ | ⟨gb, cap, rfl, _⟩
      · exact ⟨_, _, rfl⟩
      · exact ⟨_, _, rfl⟩
    obtain ⟨a, c, rfl⟩ := hv
    by_cases hlt : fresh < many
    · rw [freshL_step first many fresh hlt] at eq
      subst eq
      refine (take_fresh b m c n a first many fresh g w B _ a1 a3 a5 (by omega) hlt (by simp at ln; omega) hH).mono ?_
      rintro e w' ⟨y, rfl, hH', hB⟩
      refine ⟨(), by simp [takeV, takeB], ?_, hB⟩
      refine FreeA.shut m (.slice a 0 c) (fresh + 1) [] _ _ ⟨a1, a2, a3, a4, by dsimp only; omega, by dsimp only; omega, by simp, by simp, by simp, ?_, ?_⟩ hH'
      · intro z
        dsimp only
        by_cases hz : z = first + fresh
        · subst hz; rw [upd_same]; simp; omega
        · rw [upd_other g _ hz, tk z]
          congr 1
          simp
          omega
      · have : (g (first + fresh)).isSome = false := by rw [tk]; simp
        simp [more, this] at ln ⊢
        omega
    · have he : fresh = many := by omega
      subst he
      rw [freshL_end] at eq
      subst eq
      refine (take_none b m c n a first fresh fresh g w B _ a1 a3 a5 (by omega) (by omega) hH).mono ?_
      rintro e w' ⟨y, rfl, hH', hB⟩
      refine ⟨(), by simp [takeV, takeB], ?_, hB⟩
      exact FreeA.shut m (.slice a 0 c) fresh [] _ _ ⟨a1, a2, a3, a4, a5, a6, by simp [freshL_end], by simp, by simp, tk, ln⟩ hH'
  · rcases Has.row_shape [_, _] _ hH with ⟨rfl, h0⟩ | ⟨gb, cap, rfl, hc1, hc2, hgB, _⟩
    · simp at h0
    · have hxr := rg x (by simp)
      have hnd := List.nodup_append.1 (by simpa using nd : (bs ++ [x]).Nodup)
      have hlen2 : bs.length ≤ 256 := by
        have h1 := congrArg List.length eq
        simp [freshL_length] at h1
        omega
      simp only [List.length_concat] at hH hc1
      refine (take_back b m gb bs.length cap n first many fresh x g _ w B _ a1 a3 a5 (by omega) (by omega) (by omega) (by omega) (by omega) hc1 (by simp) hH).mono ?_
      rintro e w' ⟨y, rfl, hH', hB⟩
      have e1 : F.getLast? = some x := by rw [eq]; simp
      have e2 : F.dropLast = freshL first many fresh ++ bs := by rw [eq, List.concat_eq_append, ← List.append_assoc, List.dropLast_concat]
      have e3 : F ≠ [] := by intro h; rw [h] at e1; cases e1
      have hgx : (g x).isSome = false := by rw [tk]; simp
      refine ⟨(), by simp [takeV, takeB, e1, e3], ?_, hB⟩
      refine FreeA.shut m (.slice (some ⟨gb, 0, none⟩) bs.length cap) fresh bs (upd g x (some y)) (more g x n) ⟨a1, a2, a3, a4, a5, a6, e2, hnd.1, fun z hz => rg z (by simp [hz]), ?_, ?_⟩ ?_
      · intro z
        dsimp only
        by_cases hz : z = x
        · subst hz; rw [upd_same]; simp; refine ⟨hxr.1, hxr.2, fun h => ?_⟩; exact hnd.2.2 z h z (by simp) rfl
        · rw [upd_other g _ hz, tk z]
          simp [hz]
      · simp [more, hgx] at ln ⊢
        omega
      · simpa using hH'

def givesB (first many : Int) (F : List Int) (f : Int) : Bool := decide (first ≤ f ∧ f < first + many ∧ f ∉ F)
def given (first many : Int) (F : List Int) (f : Int) : List Int := if givesB first many F f then F ++ [f] else F

theorem FreeGive (b : Nat) (first many f : Int) (F : List Int) (hw : (Lit.int .i64 f).wf = true) :
    Does Try.prog 55 #[.pointer (some ⟨b, 0, none⟩), .int .i64 f] [FreeA b first many F] (fun _ : Unit => .bool (givesB first many F f)) (fun _ => [FreeA b first many (given first many F f)]) := by
  intro w B X hX
  obtain ⟨⟨m, v, fresh, back, g, n⟩, hI, hH⟩ := FreeA.open hX
  clear hX
  have hlen := hI.length
  have hmem := hI.mem f
  obtain ⟨a1, a2, a3, a4, a5, a6, eq, nd, rg, tk, ln⟩ := id hI
  dsimp only at *
  have htk := tk f
  cases hg : (g f).isSome with
  | false =>
    refine (give_no b m n v first many fresh f g w B _ hw hg hH).mono ?_
    rintro e w' ⟨rfl, rfl⟩
    have e1 : givesB first many F f = false := by
      unfold givesB
      rw [decide_eq_false_iff_not, hmem, hg]
      rintro ⟨h1, h2, h3⟩
      exact h3 ⟨h1, h2, rfl⟩
    exact ⟨(), by rw [e1], by unfold given; rw [e1]; exact FreeA.shut m v fresh back g n hI hH, Below.refl _ _⟩
  | true =>
    rw [hg] at htk
    have htk' := of_decide_eq_true htk.symm
    have e1 : givesB first many F f = true := by
      unfold givesB
      rw [decide_eq_true_eq, hmem, hg]
      simp
      omega
    have hbl : back.length ≤ 1000 := by
      have h1 := congrArg List.length eq
      simp [freshL_length] at h1
      omega
    refine (give_yes b m n back.length v first many fresh f g _ w B _ hw hg hbl hH).mono ?_
    rintro e w' ⟨y, rfl, hH', hB⟩
    refine ⟨(), by rw [e1], ?_, hB⟩
    unfold given
    rw [e1]
    refine FreeA.shut m (.slice (some ⟨y.1, 0, none⟩) (back.length + 1) y.2) fresh (back ++ [f]) (upd g f none) (less g f n) ⟨a1, a2, a3, a4, a5, a6, by simp [eq], ?_, ?_, ?_, ?_⟩ ?_
    · exact List.nodup_append.2 ⟨nd, by simp, fun a ha b hb e => by simp at hb; subst hb; subst e; exact htk'.2.2 ha⟩
    · intro z hz
      simp at hz
      rcases hz with h | rfl
      · exact rg z h
      · exact ⟨htk'.1, htk'.2.1⟩
    · intro z
      dsimp only
      by_cases hz : z = f
      · subst hz; rw [upd_same]; simp
      · rw [upd_other g _ hz, tk z]
        simp [hz]
    · have hp : 0 < n := by
        by_cases h0 : n = 0
        · exfalso
          subst h0
          have h2 := hI.length
          dsimp only at h2
          have h3 : f ∉ F := fun h => by rw [hmem, hg] at h; simp at h
          have h4 : ∀ z ∈ f :: F, z ∈ freshL first many 0 := by
            intro z hz
            rw [freshL_mem]
            simp at hz
            rcases hz with rfl | h
            · omega
            · have := (hI.mem z).1 h; omega
          have h5 := nodup_le _ _ (List.nodup_cons.2 ⟨h3, hI.nodup⟩) h4
          simp [freshL_length] at h5
          omega
        · omega
      simp [less, hg] at ln ⊢
      omega
    · simpa using hH'

theorem FreeLeft (b : Nat) (first many : Int) (F : List Int) :
    Does Try.prog 59 #[.pointer (some ⟨b, 0, none⟩)] [FreeA b first many F] (fun _ : Unit => .int .i64 F.length) (fun _ => [FreeA b first many F]) := by
  intro w B X hH
  obtain ⟨⟨m, v, fresh, back, g, n⟩, hI, hH'⟩ := FreeA.open hH
  have hlen := hI.length
  obtain ⟨a1, a2, a3, a4, a5, a6, eq, nd, rg, tk, ln⟩ := id hI
  dsimp only at *
  refine (left_walk b m n v first many fresh g w B _ a2 (by omega) (by omega) hH').mono ?_
  rintro e w' ⟨rfl, nq, rfl⟩
  exact ⟨(), by rw [hlen], hH.drewN nq, below_drewN (Below.refl _ _) _⟩

theorem left_is (b : Nat) (a n k : Int) (F : List Int) (h : (F.length : Int) = k) :
    Does Try.prog 59 #[.pointer (some ⟨b, 0, none⟩)] [FreeA b a n F] (fun _ : Unit => .int .i64 k) (fun _ => [FreeA b a n F]) := h ▸ FreeLeft b a n F

theorem give_is (b : Nat) (a n f : Int) (F F' : List Int) (r : Bool) (hw : (Lit.int .i64 f).wf = true) (h : givesB a n F f = r) (h' : given a n F f = F') :
    Does Try.prog 55 #[.pointer (some ⟨b, 0, none⟩), .int .i64 f] [FreeA b a n F] (fun _ : Unit => .bool r) (fun _ => [FreeA b a n F']) := h ▸ h' ▸ FreeGive b a n f F hw

theorem take_is (b : Nat) (a n f : Int) (F F' : List Int) (r : Bool) (h1 : takeV F = f) (h2 : takeB F = r) (h3 : F.dropLast = F') :
    Does Try.prog 57 #[.pointer (some ⟨b, 0, none⟩)] [FreeA b a n F] (fun _ : Unit => .tuple #[.int .i64 f, .bool r]) (fun _ => [FreeA b a n F']) := h1 ▸ h2 ▸ h3 ▸ FreeTake b a n F

theorem freshL_dec (a n f : Int) (r : Bool) (h : decide (a ≤ f ∧ f < a + n) = r) : decide (f ∈ freshL a n 0) = r := by
  rw [← h]
  congr 1
  rw [freshL_mem, Int.add_zero]

end Go.Proofs.Yteeapkndappnoaa

/-
  Slices of the call's own whose elements have several cells: made, and stored into.
-/
namespace Go.Proofs.Yteeapkndappnoaa
open Go.RowKit
set_option linter.unusedVariables false
set_option linter.unusedSimpArgs false

theorem take_splice {α : Type} (A vs : List α) (k N : Nat) (hk : k + vs.length ≤ N) (hN : N ≤ A.length) :
    (A.take k ++ vs ++ A.drop (k + vs.length)).take N = (A.take N).take k ++ vs ++ (A.take N).drop (k + vs.length) := by
  have m1 : min k A.length = k := by omega
  have m2 : min N A.length = N := by omega
  have m3 : min k N = k := by omega
  refine List.ext_getElem? fun i => ?_
  simp only [List.getElem?_take, List.getElem?_append, List.length_append, List.length_take, List.getElem?_drop, m1, m2, m3]
  by_cases h1 : i < N
  · by_cases h2 : i < k
    · have h4 : i < k + vs.length := by omega
      simp only [h1, h2, h4, if_true]
    · by_cases h3 : i < k + vs.length
      · simp only [h1, h2, h3, if_true, if_false]
      · have h4 : k + vs.length + (i - (k + vs.length)) < N := by omega
        simp only [h1, h3, h4, if_true, if_false]
  · have h3 : ¬ i < k + vs.length := by omega
    have h4 : ¬ k + vs.length + (i - (k + vs.length)) < N := by omega
    simp only [h1, h3, h4, if_false]

section
variable {P : Program} {T : TypeId} {w : World} {B n size : Nat} {v : Value} {xs : List Value}
variable {ops : Array Oper} {rest : List Oper} {o : Oper} {a : Act} {Q : Exit → Act → World → Prop}

/-- 'make([]T, n)'. -/
theorem wpList_make_rows {L : List Asr} (hH : Has w B L) (hg : o.guard = none) (lo co : Operand) (t : TypeId) (hop : o.op = Op.makeSlice t lo co)
    (i : TypeInfo) (z : Value) (bytes : Nat) (h1 : P.underlying t = some (.slice T)) (h2 : P.info? T = some i) (h3 : i.zero = some z) (h4 : i.size = size) (h5 : i.bytes = bytes)
    (kl kc : IntKind) (L0 C0 : Int) (hl : a.eval lo = .int kl L0) (hc : a.eval co = .int kc C0) (hL : L0 = (n : Int)) (hC : C0 = (n : Int)) (b2 : bytes * n ≤ 281474976710656) (b3 : n ≤ maxLen)
    (hK : ∀ w', Has w' B (row T size (.slice (some ⟨w.heap.size, 0, none⟩) n n) n (madeCells z.cells (n * size)).toList :: L) → Below B w w' → wpList P ops Q rest (a.put o.dst (.slice (some ⟨w.heap.size, 0, none⟩) n n)) w') :
    wpList P ops Q (o :: rest) a w := by
  refine wpList_make_full w hg lo co t hop w.heap.size T i z size h1 h2 h3 h4 kl kc L0 C0 n hl hc hL hC (by rw [h5]; exact b2) b3 (Nat.le_refl _) ?_
  intro w' hown hgr
  refine hK w' ?_ ((Below.refl _ _).grown hgr hH.le (fun k hk => by cases hk))
  refine hH.new _ hgr.size (fun k hk => hgr.block k hk (by simp)) ⟨[w.heap.size], ⟨rfl, ?_⟩, by simp⟩
  rcases hown.2 with ⟨h, _⟩ | ⟨g, cap, cur, hv, hb, hgg, hrest⟩
  · cases h
  · cases hv
    exact ⟨hown.1, .inr ⟨w.heap.size, n, cur, rfl, Nat.zero_le _, hgg, hrest⟩⟩

/-- A struct or an array is stored into an element. -/
theorem wpList_store_row {g cap : Nat} (L1 L2 : List Asr) (hH : Has w B (L1 ++ row T size (.slice (some ⟨g, 0, none⟩) n cap) n xs :: L2)) (ty : TypeId) (x v : Operand) (ho : o.op = .store ty x v) (hgd : Region.wanted o (yielded ops a.tmps) = true) (k : Nat) (hx : a.eval x = .pointer (some ⟨g, k, none⟩)) (vs : Array Value) (hv : a.eval v = .agg vs)
    (hi : (P.info? ty).map (·.size) = some vs.size) (hk : k + vs.size ≤ xs.length) (h1 : ∀ u ∈ vs.toList, u.oneCell' = true)
    (hK : ∀ w', Has w' B (L1 ++ row T size (.slice (some ⟨g, 0, none⟩) n cap) n (xs.take k ++ vs.toList ++ xs.drop (k + vs.size)) :: L2) → Below B w w' → w'.heap.size = w.heap.size → wpList P ops Q rest (a.put o.dst undef) w') : wpList P ops Q (o :: rest) a w := by
  obtain ⟨hr, hgB⟩ := hH.row_at L1 L2
  rcases hr.2 with ⟨hv', _⟩ | ⟨g', cap', cur, hv', hb, hgg, hc1, hc2, hc3, hc4⟩
  · cases hv'
  · cases hv'
    obtain ⟨hBg, hlt⟩ := hgB g rfl
    have hN : n * size ≤ cur.toList.length := by
      rw [Array.length_toList, hc3]
      exact Nat.mul_le_mul_right _ hc1
    have hxl := hr.1
    refine BigFrame.wpList_want hgd fun K hK' => ?_
    have hst := run_storeCells_at (P := P) g k T vs.toList 0 cur w hgg (by simp at hN ⊢; omega) h1
    have hsz : (sizeOf ty).run P w = .ok vs.size w := by
      cases hq : P.info? ty with
      | none => simp [hq] at hi
      | some i => simp [hq] at hi; simp [sizeOf, typeInfo, hq, hi]
    unfold Oper.wp execOp
    simp only [ho, hx, hv, Instr.storeAt, Instr.sureAddr, storeVar, Value.cells, Sem.run_bind, Sem.run_pure, Result.andThen_ok, hsz, ne_eq, not_true_eq_false, if_false, hst]
    refine hK' _ _ (hK _ ?_ ?_ (by simp))
    · have := hH.step (A' := row T size (.slice (some ⟨g, 0, none⟩) n cap) n (xs.take k ++ vs.toList ++ xs.drop (k + vs.size))) L1 L2 (w' := w.setRow g (cur.toList.take k ++ vs.toList ++ cur.toList.drop (k + vs.size)).toArray) (by simp)
        (fun S ⟨hS, _⟩ => ⟨[g], ⟨by simp [Value.ownBlock], ⟨by simp; omega, .inr ⟨g, cap, _, rfl, Nat.zero_le _, setRow_heap w g cur _ T (0, 0) hgg, hc1, hc2, by simp; simp at hN; omega, by
            have h := take_splice cur.toList vs.toList k (n * size) (by simp; omega) hN
            simp only [Array.length_toList] at h
            simp only [h, hc4]⟩⟩⟩, fun z hz => .inl (by rw [hS]; simpa [Value.ownBlock] using hz), fun z _ hz => setRow_other w g z _ (fun e => hz (by rw [hS, e]; simp [Value.ownBlock]))⟩)
      simpa using this
    · refine ⟨rfl, rfl, rfl, by simp, fun z hz => ?_⟩
      rw [setRow_other _ _ _ _ (by omega)]

/-- The cells of an element of a row, as a load reads them. -/
theorem Has.row_part {g cap : Nat} (L1 L2 : List Asr) (hH : Has w B (L1 ++ row T size (.slice (some ⟨g, 0, none⟩) n cap) n xs :: L2)) (off : Nat) (l : List Value) (hl : ∀ j u, l[j]? = some u → xs[off + j]? = some u) : ∀ j u, l[j]? = some u → w.cell? ((⟨g, off, none⟩ : Addr).add j) = some u := by
  intro j u hj
  have e : (⟨g, off, none⟩ : Addr).add j = ⟨g, off + j, none⟩ := by unfold Addr.add; split <;> simp_all
  rw [e]
  exact hH.row_cell L1 L2 (off + j) (hl j u hj)

theorem madeCells_same (x : Value) (s m : Nat) (hs : 0 < s) : (madeCells (Array.replicate s x) m).toList = List.replicate m x := by
  refine List.ext_getElem? fun i => ?_
  by_cases h : i < m
  · have : i % s < s := Nat.mod_lt _ hs
    simp [madeCells, h, this]
  · rw [List.getElem?_eq_none (by simp [size_madeCells]; omega), List.getElem?_eq_none (by simp; omega)]
end

end Go.Proofs.Yteeapkndappnoaa

/-
  Contracts of package frame (layer 1): a memory of n frames as its words, one behind the other.
-/
namespace Go.Proofs.Yteeapkndappnoaa
open Go.RowKit
set_option linter.unusedVariables false
set_option linter.unusedSimpArgs false

/-- The words' cells. -/
def u64s (W : List Int) : List Value := W.map (Value.int .u64)
theorem u64s_length (W : List Int) : (u64s W).length = W.length := by simp [u64s]
theorem u64s_get {W : List Int} {i : Nat} {x : Int} (h : W[i]? = some x) : (u64s W)[i]? = some (.int .u64 x) := by simp [u64s, h]
theorem u64s_set (W : List Int) (i : Nat) (x : Int) : (u64s W).set i (.int .u64 x) = u64s (W.set i x) := by simp [u64s, List.map_set]
theorem u64s_app (W V : List Int) : u64s W ++ u64s V = u64s (W ++ V) := by simp [u64s]

/-- The program's memory, at block b. -/
def MemA (b n : Nat) (W : List Int) : Asr :=
  Asr.ex fun g : Nat => Asr.and (1 ≤ n ∧ n ≤ 256 ∧ W.length = n * 8) <| Asr.all [blk b 83 #[.slice (some ⟨g, 0, none⟩) n n], row 126 8 (.slice (some ⟨g, 0, none⟩) n n) n (u64s W)]
theorem MemA.open {b n : Nat} {W : List Int} {w : World} {B : Nat} {X : List Asr} (hH : Has w B (MemA b n W :: X)) : ∃ g : Nat, (1 ≤ n ∧ n ≤ 256 ∧ W.length = n * 8) ∧
    Has w B (blk b 83 #[.slice (some ⟨g, 0, none⟩) n n] :: row 126 8 (.slice (some ⟨g, 0, none⟩) n n) n (u64s W) :: X) := by
  obtain ⟨g, hH⟩ := hH.open_ex
  obtain ⟨hI, hH⟩ := hH.open_and
  exact ⟨g, hI, hH.open_all⟩
theorem MemA.shut {b n g : Nat} {W : List Int} {w : World} {B : Nat} {X : List Asr} (hI : 1 ≤ n ∧ n ≤ 256 ∧ W.length = n * 8)
    (hH : Has w B (blk b 83 #[.slice (some ⟨g, 0, none⟩) n n] :: row 126 8 (.slice (some ⟨g, 0, none⟩) n n) n (u64s W) :: X)) : Has w B (MemA b n W :: X) :=
  Has.shut_ex g (Has.shut_and hI (Has.shut_all _ hH))
theorem MemA.fits {b n : Nat} {W : List Int} {w : World} {B : Nat} {X : List Asr} (hH : Has w B (MemA b n W :: X)) : 1 ≤ n ∧ n ≤ 256 ∧ W.length = n * 8 := (MemA.open hH).choose_spec.1

theorem infoFrame : (Try.prog.info? 126).map (fun i => (i.zero, i.size, i.bytes)) = some (some (.agg (Array.replicate 8 (.int .u64 0))), 8, 64) := by kernel_rfl

/-- What frame.New hands back. -/
def MemNewPost (frames : Int) (X : List Asr) (B : Nat) (w : World) (e : Ending) (w' : World) : Prop :=
  (¬ (1 ≤ frames ∧ frames ≤ 256) ∧ e = .returned (.pointer none) ∧ Has w' B X ∧ Below B w w') ∨
  (∃ b n : Nat, frames = n ∧ 1 ≤ n ∧ n ≤ 256 ∧ e = .returned (.pointer (some ⟨b, 0, none⟩)) ∧ Has w' B (MemA b n (List.replicate (n * 8) 0) :: X) ∧ Below B w w')
/-- frame.New. -/
theorem MemNew_calls (frames : Int) (w : World) (B : Nat) (X : List Asr) (hH : Has w B X) :
    Calls Try.prog 11 #[.int .i64 frames] w (MemNewPost frames X B w) := by
  by_cases h1 : frames < 1
  · have e1 : decide (frames < 1) = true := by rw [decide_eq_true_eq]; exact h1
    go_enter Try.func11, Try.ntmps11
    go_wp2_with fail
    go_ret
    exact .inl ⟨by omega, rfl, hH, Below.refl _ _⟩
  · have e1 : decide (frames < 1) = false := by rw [decide_eq_false_iff_not]; exact h1
    by_cases h2 : 256 < frames
    · have e2 : decide (256 < frames) = true := by rw [decide_eq_true_eq]; exact h2
      go_enter Try.func11, Try.ntmps11
      go_wp2_with fail
      go_ret
      exact .inl ⟨by omega, rfl, hH, Below.refl _ _⟩
    · have e2 : decide (256 < frames) = false := by rw [decide_eq_false_iff_not]; exact h2
      obtain ⟨n, rfl⟩ := Int.eq_ofNat_of_zero_le (show 0 ≤ frames by omega)
      obtain ⟨i0, hi, hz0, hz1, hz2⟩ := info_parts infoFrame
      go_enter Try.func11, Try.ntmps11
      go_wp2_with (at_make; refine wpList_make_rows hH rfl _ _ 81 rfl i0 _ 64 Try.underlying81 hi hz0 hz1 hz2 _ _ _ _ rfl rfl rfl rfl (by omega) (by unfold maxLen; omega) ?_; intro w1 hH1 hB1)
      go_ret
      have e : (madeCells (Value.agg (Array.replicate 8 (.int .u64 0))).cells (n * 8)).toList = u64s (List.replicate (n * 8) 0) := by
        rw [show (Value.agg (Array.replicate 8 (.int .u64 0))).cells = Array.replicate 8 (.int .u64 0) from rfl, madeCells_same _ 8 _ (by omega)]
        simp [u64s]
      rw [e] at hH1
      have hN := hH1.newblk w1.heap.size 83 #[.slice (some ⟨w.heap.size, 0, none⟩) n n] rfl
      exact .inr ⟨w1.heap.size, n, rfl, by omega, by omega, rfl, MemA.shut ⟨by omega, by omega, by simp⟩ hN, hB1.trans (below_new (Below.refl _ _) hH1 _)⟩

theorem Frames_calls (b n : Nat) (W : List Int) (w : World) (B : Nat) (X : List Asr) (hH : Has w B (MemA b n W :: X)) :
    Calls Try.prog 47 #[.pointer (some ⟨b, 0, none⟩)] w fun e w' => e = .returned (.int .i64 n) ∧ w = w' := by
  obtain ⟨g, _, hO⟩ := MemA.open hH
  have c0 := hO.cell [] _ 0 rfl
  clear hH hO
  go_enter Try.func47, Try.ntmps47
  go_wp2_with fail
  go_ret
  exact ⟨rfl, rfl⟩

/-- There is such a word. -/
def wok (n : Nat) (f i : Int) : Prop := 0 ≤ f ∧ f < n ∧ 0 ≤ i ∧ i < 8
instance (n : Nat) (f i : Int) : Decidable (wok n f i) := by unfold wok; infer_instance
/-- Where it is. -/
def wat (f i : Int) : Nat := f.toNat * 8 + i.toNat
theorem wat_lt {n : Nat} {f i : Int} (h : wok n f i) : wat f i < n * 8 := by
  obtain ⟨h1, h2, h3, h4⟩ := h
  unfold wat
  omega
theorem wok_nat {n : Nat} {f i : Int} (h : wok n f i) : ∃ k j : Nat, f = k ∧ i = j ∧ k < n ∧ j < 8 := by
  obtain ⟨h1, h2, h3, h4⟩ := h
  exact ⟨f.toNat, i.toNat, by omega, by omega, by omega, by omega⟩

/-- word, where there is one. -/
theorem word_yes (b g n k j : Nat) (hk : k < n) (hj : j < 8) (hn : n ≤ 256) (w : World) (B : Nat) (X : List Asr) (hH : Has w B (blk b 83 #[.slice (some ⟨g, 0, none⟩) n n] :: X)) :
    Calls Try.prog 60 #[.pointer (some ⟨b, 0, none⟩), .int .i64 k, .int .i64 j] w fun e w' => e = .returned (.pointer (some ⟨g, k * 8 + j, none⟩)) ∧ w = w' := by
  have c0 := hH.cell [] _ 0 rfl
  clear hH
  have e1 : decide ((n : Int) ≤ (k : Int)) = false := by rw [decide_eq_false_iff_not]; omega
  have e1 : decide (n ≤ k) = false := by rw [decide_eq_false_iff_not]; omega
  have e1 : decide (8 ≤ (j : Int)) = false := by rw [decide_eq_false_iff_not]; omega
  have e1 : decide (8 ≤ j) = false := by rw [decide_eq_false_iff_not]; omega
  go_enter Try.func60, Try.ntmps60
  go_wp2_with fail
  go_ret
  exact ⟨rfl, rfl⟩

/-- word, where there is none. -/
theorem word_no (b g n : Nat) (f i : Int) (hno : ¬ wok n f i) (w : World) (B : Nat) (X : List Asr) (hH : Has w B (blk b 83 #[.slice (some ⟨g, 0, none⟩) n n] :: X)) :
    Calls Try.prog 60 #[.pointer (some ⟨b, 0, none⟩), .int .i64 f, .int .i64 i] w fun e w' => e = .returned (.pointer none) ∧ w = w' := by
  have c0 := hH.cell [] _ 0 rfl
  clear hH
  by_cases h1 : f < 0
  · have e1 : decide (f < 0) = true := by rw [decide_eq_true_eq]; exact h1
    clear hno
    go_enter Try.func60, Try.ntmps60
    go_wp2_with fail
    go_ret
    exact ⟨rfl, rfl⟩
  · have e1 : decide (f < 0) = false := by rw [decide_eq_false_iff_not]; exact h1
    by_cases h2 : (n : Int) ≤ f
    · have e2 : decide ((n : Int) ≤ f) = true := by rw [decide_eq_true_eq]; exact h2
      clear hno
      go_enter Try.func60, Try.ntmps60
      go_wp2_with fail
      go_ret
      exact ⟨rfl, rfl⟩
    · have e2 : decide ((n : Int) ≤ f) = false := by rw [decide_eq_false_iff_not]; exact h2
      by_cases h3 : i < 0
      · have e3 : decide (i < 0) = true := by rw [decide_eq_true_eq]; exact h3
        clear hno
        go_enter Try.func60, Try.ntmps60
        go_wp2_with fail
        go_ret
        exact ⟨rfl, rfl⟩
      · have e3 : decide (i < 0) = false := by rw [decide_eq_false_iff_not]; exact h3
        by_cases h4 : 8 ≤ i
        · have e4 : decide (8 ≤ i) = true := by rw [decide_eq_true_eq]; exact h4
          clear hno
          go_enter Try.func60, Try.ntmps60
          go_wp2_with fail
          go_ret
          exact ⟨rfl, rfl⟩
        · exact absurd ⟨by omega, by omega, by omega, by omega⟩ hno

/-- What Get answers. -/
def getR (W : List Int) (n : Nat) (f i : Int) : Value := .tuple #[.int .u64 (if wok n f i then W.getD (wat f i) 0 else 0), .bool (decide (wok n f i))]

theorem Get_calls (b n : Nat) (W : List Int) (f i : Int) (w : World) (B : Nat) (X : List Asr) (hH : Has w B (MemA b n W :: X)) :
    Calls Try.prog 24 #[.pointer (some ⟨b, 0, none⟩), .int .i64 f, .int .i64 i] w fun e w' => e = .returned (getR W n f i) ∧ w = w' := by
  obtain ⟨g, ⟨hI1, hI2, hI3⟩, hO⟩ := MemA.open hH
  by_cases hk : wok n f i
  · obtain ⟨k, j, rfl, rfl, h1, h2⟩ := wok_nat hk
    have hlt := wat_lt hk
    obtain ⟨x, hx⟩ : ∃ x, W[k * 8 + j]? = some x := ⟨_, List.getElem?_eq_getElem (by simp [wat] at hlt; omega)⟩
    have er : getR W n k j = .tuple #[.int .u64 x, .bool true] := by simp [getR, hk, wat, List.getD, hx]
    rw [er]
    have c0 := hO.row_cell [_] _ (k * 8 + j) (u64s_get hx)
    have cw := word_yes b g n k j h1 h2 hI2 w B _ hO
    clear er hk hlt hx hH hO
    go_enter Try.func24, Try.ntmps24
    go_wp2_with fail
    refine cw.mono ?_
    rintro e w' ⟨rfl, rfl⟩
    go_wp2_with fail
    go_ret2
    exact ⟨rfl, rfl⟩
  · have er : getR W n f i = .tuple #[.int .u64 0, .bool false] := by simp [getR, hk]
    rw [er]
    have cw := word_no b g n f i hk w B _ hO
    clear er hk hH hO
    go_enter Try.func24, Try.ntmps24
    go_wp2_with fail
    refine cw.mono ?_
    rintro e w' ⟨rfl, rfl⟩
    go_wp2_with fail
    go_ret2
    exact ⟨rfl, rfl⟩

/-- What Set leaves. -/
def setW (W : List Int) (n : Nat) (f i v : Int) : List Int := if wok n f i then W.set (wat f i) v else W

theorem Set_calls (b n : Nat) (W : List Int) (f i v : Int) (w : World) (B : Nat) (X : List Asr) (hH : Has w B (MemA b n W :: X)) :
    Calls Try.prog 26 #[.pointer (some ⟨b, 0, none⟩), .int .i64 f, .int .i64 i, .int .u64 v] w fun e w' => e = .returned (.bool (decide (wok n f i))) ∧ Has w' B (MemA b n (setW W n f i v) :: X) ∧ Below B w w' := by
  obtain ⟨g, ⟨hI1, hI2, hI3⟩, hO⟩ := MemA.open hH
  by_cases hk : wok n f i
  · obtain ⟨k, j, rfl, rfl, h1, h2⟩ := wok_nat hk
    have hlt := wat_lt hk
    obtain ⟨x, hx⟩ : ∃ x, W[k * 8 + j]? = some x := ⟨_, List.getElem?_eq_getElem (by simp [wat] at hlt; omega)⟩
    have er : setW W n k j v = W.set (k * 8 + j) v := by simp [setW, hk, wat]
    rw [er, decide_eq_true hk]
    have c0 := hO.row_cell [_] _ (k * 8 + j) (u64s_get hx)
    have f0 := hO.row_frozen [_] _ (k * 8 + j)
    have cw := word_yes b g n k j h1 h2 hI2 w B _ hO
    have hS := hO.row_set [_] _ (k * 8 + j) (by rw [u64s_length]; simp [wat] at hlt; omega) (.int .u64 v)
    rw [u64s_set] at hS
    have hgB : B ≤ g := by
      rcases hO.row_shape [_] _ with ⟨h, _⟩ | ⟨g', cap', h, _, _, h3, _⟩
      · cases h
      · cases h; exact h3
    clear er hk hlt hx hH hO
    go_enter Try.func26, Try.ntmps26
    go_wp2_with fail
    refine cw.mono ?_
    rintro e w' ⟨rfl, rfl⟩
    go_wp2_with fail
    go_ret
    exact ⟨rfl, MemA.shut ⟨hI1, hI2, by simpa using hI3⟩ hS, (Below.refl _ _).setCell (p := ⟨g, k * 8 + j, none⟩) hgB (.int .u64 v)⟩
  · have er : setW W n f i v = W := by simp [setW, hk]
    rw [er, decide_eq_false hk]
    have cw := word_no b g n f i hk w B _ hO
    clear er hk hO
    go_enter Try.func26, Try.ntmps26
    go_wp2_with fail
    refine cw.mono ?_
    rintro e w' ⟨rfl, rfl⟩
    go_wp2_with fail
    go_ret
    exact ⟨rfl, hH, Below.refl _ _⟩

end Go.Proofs.Yteeapkndappnoaa

/-
  Frame, Fill and Same of package frame.
-/
namespace Go.Proofs.Yteeapkndappnoaa
open Go.RowKit
set_option linter.unusedVariables false
set_option linter.unusedSimpArgs false

/-- The words of a frame. -/
def frameW (W : List Int) (n : Nat) (f : Int) : List Int := if 0 ≤ f ∧ f < n then (W.drop (f.toNat * 8)).take 8 else []
theorem frameW_length {W : List Int} {n : Nat} {f : Int} (hW : W.length = n * 8) (hf : 0 ≤ f ∧ f < n) : (frameW W n f).length = 8 := by
  unfold frameW
  rw [if_pos hf]
  simp
  omega
theorem frameW_no {W : List Int} {n : Nat} {f : Int} (hf : ¬ (0 ≤ f ∧ f < n)) : frameW W n f = [] := by
  unfold frameW
  rw [if_neg hf]

theorem infoU64 : (Try.prog.info? 55).map (fun i => (i.zero, i.size, i.bytes)) = some (some (.int .u64 0), 1, 8) := by kernel_rfl

set_option maxHeartbeats 1000000 in
set_option maxRecDepth 100000 in
theorem Frame_calls (b n : Nat) (W : List Int) (f : Int) (w : World) (B : Nat) (X : List Asr) (hH : Has w B (MemA b n W :: X)) :
    Calls Try.prog 27 #[.pointer (some ⟨b, 0, none⟩), .int .i64 f] w fun e w' => ∃ v, e = .returned v ∧ Has w' B (row 55 1 v (frameW W n f).length (u64s (frameW W n f)) :: MemA b n W :: X) ∧ Below B w w' := by
  obtain ⟨g, ⟨hI1, hI2, hI3⟩, hO⟩ := MemA.open hH
  obtain ⟨i0, hi, hz0, hz1, hz2⟩ := info_parts infoU64
  clear hH
  have hR := hO.nilrow 55 1
  by_cases hf : 0 ≤ f ∧ f < n
  · obtain ⟨p, rfl⟩ := Int.eq_ofNat_of_zero_le hf.1
    have hp : p < n := by omega
    have hL := frameW_length hI3 hf
    have hFe : frameW W n p = (W.drop (p * 8)).take 8 := by unfold frameW; rw [if_pos hf]; simp
    rw [hL]
    generalize frameW W n p = F at *
    have HF := hid hFe
    have HI := hid hI3
    have HL := hid hL
    clear hFe hI3 hL hf
    go_enter Try.func27, Try.ntmps27
    go_wp2_with fail
    go_loopw [5, 6, 7, 8] (fun out _ _ i wr => ∃ (k : Nat) (v : Value), k ≤ 8 ∧ i = .int .i64 k ∧ out = v ∧ Has wr B (row 55 1 v k (u64s (F.take k)) :: blk b 83 #[.slice (some ⟨g, 0, none⟩) n n] :: row 126 8 (.slice (some ⟨g, 0, none⟩) n n) n (u64s W) :: X) ∧ Below B w wr) (fun _ _ _ i _ => 8 - (intOf i).toNat)
    case atStart => exact ⟨0, _, by omega, rfl, rfl, by simpa [u64s] using hR, Below.refl _ _⟩
    case round =>
      obtain ⟨k, v, hk, rfl, rfl, hHr, hBr⟩ := hrel
      clear hR hO
      by_cases hlt : k < 8
      · obtain ⟨x, hx⟩ : ∃ x, W[p * 8 + k]? = some x := ⟨_, List.getElem?_eq_getElem (by have := HI.out; omega)⟩
        have hFx : F.take (k + 1) = F.take k ++ [x] := by
          have e : F[k]? = some x := by rw [HF.out, List.getElem?_take_of_lt hlt, List.getElem?_drop]; exact hx
          rw [List.take_add_one, e]; rfl
        have c0 := hHr.row_cell [_, _] _ (p * 8 + k) (u64s_get hx)
        have cw := word_yes b g n p k hp hlt hI2 wr B _ (hHr.front [_] _)
        have CW := hid cw
        have HX := hid hFx
        clear cw hx hFx
        obtain ⟨ao, cp, rfl, _, _, _⟩ := hHr.row_form [] _
        go_wp2_with fail
        refine CW.out.mono ?_
        rintro e w' ⟨rfl, rfl⟩
        go_wp2_with (at_builtin; refine wpList_append_row [] _ (hHr.alloc _) rfl _ _ 62 rfl i0 (.int .u64 0) 8 Try.underlying62 hi hz0 hz1 hz2 rfl (by decide) rfl ⟨wr.heap.size, 0, none⟩ 1 1 [.int .u64 x] rfl rfl (cell_one_new _ _ _) (by simp [Value.oneCell']) (by decide) (by unfold maxLen; omega) (by omega) ?_; intro g2 cap2 w2 hH2 hB2)
        go_roundw
        case rel => exact ⟨k + 1, _, by omega, by go_num, rfl, by rw [HX.out]; simpa [u64s] using hH2, hBr.trans ((below_new (Below.refl _ _) hHr _).trans hB2)⟩
        case measure => simp [intOf] <;> omega
      · obtain rfl : k = 8 := by omega
        go_wp2_with fail
        go_ret
        exact ⟨_, rfl, by
          have h := hHr
          rw [List.take_of_length_le (by rw [HL.out]; omega)] at h
          have h2 := (h.perm (List.Perm.trans (List.Perm.swap _ _ _) (List.Perm.cons _ (List.Perm.swap _ _ _))))
          exact (MemA.shut (g := g) ⟨hI1, hI2, HI.out⟩ h2).front [_] _, hBr⟩
  · rw [frameW_no hf]
    have hno : ∀ i, ¬ wok n f i := fun i h => hf ⟨h.1, h.2.1⟩
    have HN := hid hno
    clear hno hf
    go_enter Try.func27, Try.ntmps27
    go_wp2_with fail
    go_loopw [5, 6, 7, 8] (fun out _ _ i wr => ∃ (k : Nat), k ≤ 8 ∧ i = .int .i64 k ∧ out = .slice none 0 0 ∧ w = wr) (fun _ _ _ i _ => 8 - (intOf i).toNat)
    case atStart => exact ⟨0, by omega, rfl, rfl, rfl⟩
    case round =>
      obtain ⟨k, hk, rfl, rfl, rfl⟩ := hrel
      by_cases hlt : k < 8
      · have cw := word_no b g n f k (HN.out k) w B _ hO
        have CW := hid cw
        clear cw
        go_wp2_with fail
        refine CW.out.mono ?_
        rintro e w' ⟨rfl, rfl⟩
        go_wp2_with fail
        go_roundw
        case rel => exact ⟨k + 1, by omega, by go_num, rfl, trivial⟩
        case measure => simp [intOf] <;> omega
      · obtain rfl : k = 8 := by omega
        go_wp2_with fail
        go_ret
        have h2 := (hR.perm (List.Perm.trans (List.Perm.swap _ _ _) (List.Perm.cons _ (List.Perm.swap _ _ _))))
        exact ⟨_, rfl, (MemA.shut (g := g) ⟨hI1, hI2, hI3⟩ h2).front [_] _, Below.refl _ _⟩

end Go.Proofs.Yteeapkndappnoaa

/-
  Fill and Same of package frame.
-/
namespace Go.Proofs.Yteeapkndappnoaa
open Go.RowKit
set_option linter.unusedVariables false
set_option linter.unusedSimpArgs false

/-- A list of words that came in, or is the call's own. -/
structure SrcU (w : World) (a : Option Addr) (l : List Int) : Prop where
  small : l.length ≤ 9223372036854775807
  mem : 0 < l.length → ∃ b o, a = some ⟨b, o, none⟩ ∧ b < w.heap.size ∧ ∀ j u, (u64s l)[j]? = some u → w.cell? ⟨b, o + j, none⟩ = some u

/-- What Fill leaves. -/
def fillW (W : List Int) (n : Nat) (f : Int) (l : List Int) : List Int := if 0 ≤ f ∧ f < n ∧ l.length = 8 then W.take (f.toNat * 8) ++ l ++ W.drop (f.toNat * 8 + 8) else W

set_option maxHeartbeats 1000000 in
set_option maxRecDepth 100000 in
theorem Fill_calls (b n : Nat) (W : List Int) (f : Int) (a : Option Addr) (cap : Nat) (l : List Int) (w : World) (hs : SrcU w a l) (B : Nat) (X : List Asr) (hH : Has w B (MemA b n W :: X)) :
    Calls Try.prog 58 #[.pointer (some ⟨b, 0, none⟩), .int .i64 f, .slice a l.length cap] w fun e w' => e = .returned (.bool (decide (0 ≤ f ∧ f < n ∧ l.length = 8))) ∧ Has w' B (MemA b n (fillW W n f l) :: X) ∧ Below B w w' := by
  obtain ⟨g, ⟨hI1, hI2, hI3⟩, hO⟩ := MemA.open hH
  by_cases hf : 0 ≤ f ∧ f < n
  · obtain ⟨p, rfl⟩ := Int.eq_ofNat_of_zero_le hf.1
    have hp : p < n := by omega
    have cw := word_yes b g n p 0 hp (by omega) hI2 w B _ hO
    by_cases hl : l.length = 8
    · have er : fillW W n p l = W.take (p * 8) ++ l ++ W.drop (p * 8 + 8) := by
        have : 0 ≤ (p : Int) ∧ (p : Int) < n ∧ l.length = 8 := ⟨hf.1, hf.2, hl⟩
        unfold fillW
        rw [if_pos this]
        simp
      rw [er, decide_eq_true (⟨hf.1, hf.2, hl⟩ : 0 ≤ (p : Int) ∧ (p : Int) < n ∧ l.length = 8)]
      obtain ⟨gb, o, rfl, hgb, hc⟩ := hs.mem (by omega)
      have c0 := hO.cell [] _ 0 rfl
      obtain ⟨y0, y1, y2, y3, y4, y5, y6, y7, rfl⟩ : ∃ y0 y1 y2 y3 y4 y5 y6 y7, l = [y0, y1, y2, y3, y4, y5, y6, y7] := by
        match l, hl with
        | [y0, y1, y2, y3, y4, y5, y6, y7], _ => exact ⟨y0, y1, y2, y3, y4, y5, y6, y7, rfl⟩
      have d0 := hc 0 _ rfl
      have d1 := hc 1 _ rfl
      have d2 := hc 2 _ rfl
      have d3 := hc 3 _ rfl
      have d4 := hc 4 _ rfl
      have d5 := hc 5 _ rfl
      have d6 := hc 6 _ rfl
      have d7 := hc 7 _ rfl
      rw [Nat.add_zero] at d0
      have HL := hid hl
      rw [hl]
      have hsa : ∀ W, Sem.run Try.prog (Instr.arrayAt 126 (.slice (some ⟨gb, o, none⟩) 8 cap)) W = .ok (.pointer (some ⟨gb, o, none⟩)) W := fun W => by
        have h := Try.underlying126
        simp [Instr.arrayAt, run_underlying h]
      clear er hf hs hl hc
      go_enter Try.func58, Try.ntmps58
      go_wp2_with fail
      refine cw.mono ?_
      rintro e w' ⟨rfl, rfl⟩
      go_wp2_with fail
      go_still_tail 9, (by kernel_rfl)
      change wpList _ _ _ _ _ (w.drew)
      have hD := hO.drew
      have hBd : Below B w w.drew := (Below.refl B w).drew
      go_wp2_with (refine wpList_store_row [_] _ hD 126 (.tmp 24) (.tmp 23) rfl rfl (p * 8) rfl _ rfl rfl (by rw [u64s_length]; simp; omega) (by simp [Value.oneCell']) ?_; intro w2 hH2 hB2 hz2)
      go_ret
      have e : (u64s W).take (p * 8) ++ [Value.int .u64 y0, .int .u64 y1, .int .u64 y2, .int .u64 y3, .int .u64 y4, .int .u64 y5, .int .u64 y6, .int .u64 y7] ++ (u64s W).drop (p * 8 + 8) = u64s (W.take (p * 8) ++ [y0, y1, y2, y3, y4, y5, y6, y7] ++ W.drop (p * 8 + 8)) := by
        simp [u64s, List.map_take, List.map_drop]
      have hH3 : Has w2 B (blk b 83 #[.slice (some ⟨g, 0, none⟩) n n] :: row 126 8 (.slice (some ⟨g, 0, none⟩) n n) n (u64s (W.take (p * 8) ++ [y0, y1, y2, y3, y4, y5, y6, y7] ++ W.drop (p * 8 + 8))) :: X) := by
        rw [← e]
        exact hH2
      exact ⟨rfl, by simpa using MemA.shut ⟨hI1, hI2, by simp; omega⟩ hH3, hBd.trans hB2⟩
    · have er : fillW W n p l = W := by
        have : ¬ (0 ≤ (p : Int) ∧ (p : Int) < n ∧ l.length = 8) := fun h => hl h.2.2
        unfold fillW
        rw [if_neg this]
      rw [er, decide_eq_false (fun h => hl h.2.2 : ¬ (0 ≤ (p : Int) ∧ (p : Int) < n ∧ l.length = 8))]
      have e1 : (l.length == 8) = false := by rw [beq_eq_false_iff_ne]; exact hl
      have e2 : ((l.length : Int) == 8) = false := by rw [beq_eq_false_iff_ne]; omega
      clear er hf hs hl
      go_enter Try.func58, Try.ntmps58
      go_wp2_with fail
      refine cw.mono ?_
      rintro e w' ⟨rfl, rfl⟩
      go_wp2_with fail
      go_ret
      exact ⟨rfl, hH, Below.refl _ _⟩
  · have er : fillW W n f l = W := by
      have : ¬ (0 ≤ f ∧ f < n ∧ l.length = 8) := fun h => hf ⟨h.1, h.2.1⟩
      unfold fillW
      rw [if_neg this]
    have cw := word_no b g n f 0 (fun h => hf ⟨h.1, h.2.1⟩) w B _ hO
    rw [er, decide_eq_false (fun h => hf ⟨h.1, h.2.1⟩ : ¬ (0 ≤ f ∧ f < n ∧ l.length = 8))]
    clear er hf hs
    go_enter Try.func58, Try.ntmps58
    go_wp2_with fail
    refine cw.mono ?_
    rintro e w' ⟨rfl, rfl⟩
    go_wp2_with fail
    go_ret
    exact ⟨rfl, hH, Below.refl _ _⟩

end Go.Proofs.Yteeapkndappnoaa

/-
  Same of package frame.
-/
namespace Go.Proofs.Yteeapkndappnoaa
open Go.RowKit
set_option linter.unusedVariables false
set_option linter.unusedSimpArgs false

theorem all_range_ints : ∀ (xs ys : List Int), xs.length = ys.length → ((List.range xs.length).all fun i => xs.getD i 0 == ys.getD i 0) = (xs == ys)
  | [], [], _ => rfl
  | x :: xs, y :: ys, h => by
    have ih := all_range_ints xs ys (by simpa using h)
    rw [List.length_cons, List.range_succ_eq_map, List.all_cons, List.all_map]
    simp only [List.getD_cons_zero, Function.comp_def, List.getD_cons_succ, ih]
    simp [List.cons_beq_cons]
  | [], _ :: _, h => by simp at h
  | _ :: _, [], h => by simp at h

theorem run_equalIn_ints {P : Program} (w : World) (d : Nat) (t e : TypeId) (n : Nat) (k : IntKind) (ht : P.underlying t = some (.array n e)) (he : P.underlying e = some (.int k)) (hsz : ∀ w, (sizeOf e).run P w = .ok 1 w)
    (xs ys : List Int) (hx : xs.length = n) (hy : ys.length = n) :
    (Op.equalIn (d + 2) t (.agg (xs.map (Value.int k)).toArray) (.agg (ys.map (Value.int k)).toArray)).run P w = .ok (xs == ys) w := by
  rw [← all_range_ints xs ys (hx.trans hy.symm), hx, List.range_eq_range', Op.equalIn]
  simp only [Sem.run_bind, run_underlying ht, Result.andThen_ok, hsz, Std.Legacy.Range.forIn_eq_forIn_range', Std.Legacy.Range.size, Nat.sub_zero, Nat.add_sub_cancel, Nat.div_one]
  have hl : ∀ i ∈ List.range' 0 n 1, i < n := fun i hi => by simpa using (List.mem_range'_1.1 hi).2
  generalize List.range' 0 n 1 = l at hl ⊢
  induction l with
  | nil => simp
  | cons i l ih =>
    have hi : i < n := hl i (by simp)
    have px : (part e (xs.map (Value.int k)).toArray (i * 1)).run P w = .ok (.int k (xs.getD i 0)) w := by
      simp [part, isAgg, run_underlying he, List.getD, List.getElem?_eq_getElem (show i < xs.length by omega)]
    have py : (part e (ys.map (Value.int k)).toArray (i * 1)).run P w = .ok (.int k (ys.getD i 0)) w := by
      simp [part, isAgg, run_underlying he, List.getD, List.getElem?_eq_getElem (show i < ys.length by omega)]
    have pe : (Op.equalIn (d + 1) e (.int k (xs.getD i 0)) (.int k (ys.getD i 0))).run P w = .ok (xs.getD i 0 == ys.getD i 0) w := by
      rw [run_equalIn_int w d e k k _ _ he]
    simp only [List.forIn_cons, Sem.run_bind, px, py, pe, Result.andThen_ok, List.all_cons]
    cases hb : (xs.getD i 0 == ys.getD i 0)
    · simp
    · simp only [Bool.not_true, Bool.false_eq_true, if_false, Sem.run_pure, Result.andThen_ok, Bool.true_and]
      exact ih fun j hj => hl j (by simp [hj])

theorem run_eql_frame (xs ys : List Int) (hx : xs.length = 8) (hy : ys.length = 8) (w : World) : Sem.run Try.prog (binOp .eql 126 (.agg (u64s xs).toArray) (.agg (u64s ys).toArray)) w = .ok (.bool (xs == ys)) w := by
  have hsz : ∀ w, (sizeOf 55).run Try.prog w = .ok 1 w := fun w => by
    obtain ⟨i0, hi, _, hz1, _⟩ := info_parts infoU64
    simp [sizeOf, typeInfo, hi, hz1]
  rw [run_eql_struct]
  unfold u64s
  rw [run_equalIn_ints w 9998 126 55 8 .u64 Try.underlying126 Try.underlying55 hsz xs ys hx hy]
  rfl

theorem fr_size8 : (Try.prog.info? 126).map (fun i => i.size) = some 8 := by kernel_rfl
theorem fr_size {l : List Int} (h : l.length = 8) : (Try.prog.info? 126).map (fun i => i.size) = some (u64s l).toArray.size := by
  have e : (u64s l).toArray.size = 8 := by simp [u64s, h]
  rw [e, fr_size8]
theorem fr_size' {l : List Int} (h : l.length = 8) : (Try.prog.info? 126).map (fun i => i.size) = some (u64s l).length := by
  rw [u64s_length, h, fr_size8]
theorem fr_one (l : List Int) : ∀ u ∈ (u64s l).toArray.toList, u.oneCell' = true := by simp [u64s, Value.oneCell']
def zero8 : Array Value := #[.int .u64 0, .int .u64 0, .int .u64 0, .int .u64 0, .int .u64 0, .int .u64 0, .int .u64 0, .int .u64 0]
theorem fr_zero {l : List Int} (h : l.length = 8) : (u64s l).toArray.size = zero8.size := by simp [u64s, h, zero8]

theorem frame_part {W : List Int} {n k : Nat} (hW : W.length = n * 8) (hk : k < n) : ∀ j u, (u64s (frameW W n k))[j]? = some u → (u64s W)[k * 8 + j]? = some u := by
  intro j u hj
  have hj8 : j < 8 := by
    have := (List.getElem?_eq_some_iff.1 hj).1
    rw [u64s_length, frameW_length hW ⟨by omega, by omega⟩] at this
    exact this
  have e : frameW W n k = (W.drop (k * 8)).take 8 := by unfold frameW; rw [if_pos ⟨by omega, by omega⟩]; simp
  rw [e] at hj
  simp only [u64s, List.getElem?_map, List.getElem?_take_of_lt hj8, List.getElem?_drop] at hj ⊢
  exact hj

/-- Memories are alike just if each frame is. -/
theorem frames_eq {W V : List Int} {n : Nat} (hW : W.length = n * 8) (hV : V.length = n * 8) (h : ∀ k : Nat, k < n → frameW W n k = frameW V n k) : W = V := by
  refine List.ext_getElem? fun i => ?_
  by_cases hi : i < n * 8
  · have hk : i / 8 < n := by omega
    have h1 := h (i / 8) hk
    unfold frameW at h1
    rw [if_pos ⟨by omega, by omega⟩, if_pos ⟨by omega, by omega⟩] at h1
    have h2 := congrArg (fun l : List Int => l[i % 8]?) h1
    simp only [Int.toNat_natCast] at h2
    rw [List.getElem?_take_of_lt (by omega), List.getElem?_take_of_lt (by omega), List.getElem?_drop, List.getElem?_drop] at h2
    have e : i / 8 * 8 + i % 8 = i := by omega
    rw [e] at h2
    exact h2
  · rw [List.getElem?_eq_none (by omega), List.getElem?_eq_none (by omega)]

end Go.Proofs.Yteeapkndappnoaa

/-
  The live question of layer 1; SameWords of the document's answer.
-/
namespace Go.Proofs.Yteeapkndappnoaa
open Go.RowKit
set_option linter.unusedVariables false
set_option linter.unusedSimpArgs false

theorem MemNew_yes (n : Nat) (h1 : 1 ≤ n) (h2 : n ≤ 256) (w : World) (B : Nat) (X : List Asr) (hH : Has w B X) :
    Calls Try.prog 11 #[.int .i64 n] w fun e w' => ∃ b, e = .returned (.pointer (some ⟨b, 0, none⟩)) ∧ Has w' B (MemA b n (List.replicate (n * 8) 0) :: X) ∧ Below B w w' := by
  refine (MemNew_calls n w B X hH).mono ?_
  rintro e w' (⟨h, _⟩ | ⟨b, m, hm, _, _, he, hh, hb⟩)
  · exact absurd ⟨by omega, by omega⟩ h
  · obtain rfl : n = m := by omega
    exact ⟨b, he, hh, hb⟩
theorem MemNew_no (f : Int) (h : ¬ (1 ≤ f ∧ f ≤ 256)) (w : World) (B : Nat) (X : List Asr) (hH : Has w B X) :
    Calls Try.prog 11 #[.int .i64 f] w fun e w' => e = .returned (.pointer none) ∧ Has w' B X ∧ Below B w w' := by
  refine (MemNew_calls f w B X hH).mono ?_
  rintro e w' (⟨_, he⟩ | ⟨b, m, hm, h1, h2, _⟩)
  · exact he
  · exact absurd ⟨by omega, by omega⟩ h

theorem srcu_nil (w : World) : SrcU w none [] := ⟨by simp, by simp⟩
/-- A row of the call's own serves as words. -/
theorem srcu_row {w : World} {B cap n : Nat} {ao : Option Addr} {T : TypeId} {l : List Int} (L1 L2 : List Asr) (hH : Has w B (L1 ++ row T 1 (.slice ao n cap) n (u64s l) :: L2)) (hn : n = l.length) : SrcU w ao l := by
  subst hn
  rcases hH.row_shape L1 L2 with ⟨h, h0⟩ | ⟨g', cap', h, h1, h2, _, hg⟩
  · exact ⟨by omega, by omega⟩
  · cases h
    refine ⟨by unfold maxLen at h2; omega, fun _ => ⟨g', 0, rfl, hg, fun j u hj => ?_⟩⟩
    rw [Nat.zero_add]
    exact hH.row_cell L1 L2 j hj
theorem SrcU.later {w w' : World} {a : Option Addr} {l : List Int} (h : SrcU w a l) (hb : Below w.heap.size w w') : SrcU w' a l :=
  ⟨h.small, fun h0 => by
    obtain ⟨b, o, ha, hlt, hc⟩ := h.mem h0
    exact ⟨b, o, ha, Nat.lt_of_lt_of_le hlt hb.size, fun j u hj => ArgRow.later hlt hc hb j hj⟩⟩
theorem SrcU.at {w : World} {a : Option Addr} {l : List Int} (h : SrcU w a l) {b o : Nat} (ha : a = some ⟨b, o, none⟩) {k : Nat} {x : Int} (hk : l[k]? = some x) : w.cell? ⟨b, o + k, none⟩ = some (.int .u64 x) := by
  have := (List.getElem?_eq_some_iff.1 hk).1
  obtain ⟨b', o', e, hlt, hc⟩ := h.mem (by omega)
  rw [ha] at e
  injection e with e
  injection e with e1 e2 e3
  subst e1 e2
  exact hc k _ (u64s_get hk)

set_option maxHeartbeats 1000000 in
set_option maxRecDepth 100000 in
/-- SameWords. -/
theorem SameWords_calls (a b : Option Addr) (ca cb : Nat) (l m : List Int) (w : World) (h1 : SrcU w a l) (h2 : SrcU w b m) :
    Calls Try.prog 28 #[.slice a l.length ca, .slice b m.length cb] w fun e w' => e = .returned (.bool (l == m)) ∧ Below w.heap.size w w' := by
  have s1 := h1.small
  have s2 := h2.small
  by_cases hn : l.length = m.length
  · have e1 : (l.length == m.length) = true := by rw [beq_iff_eq]; exact hn
    have H1 := hid h1
    have H2 := hid h2
    rw [← hn]
    have HN := hid hn
    clear h1 h2 hn e1 s2
    go_enter Try.func28, Try.ntmps28
    go_wp2_with fail
    go_loopw [5] (fun i wr => ∃ k : Nat, k ≤ l.length ∧ i = .int .i64 k ∧ Below w.heap.size w wr ∧ ∀ j, j < k → l[j]? = m[j]?) (fun i _ => l.length - (intOf i).toNat)
    case atStart => exact ⟨0, by omega, rfl, Below.refl _ _, fun j h => by omega⟩
    case round =>
      obtain ⟨k, hk, rfl, hBr, hall⟩ := hrel
      have HALL := hid hall
      clear hall
      by_cases hlt : k < l.length
      · obtain ⟨x, hx⟩ : ∃ x, l[k]? = some x := ⟨l[k], List.getElem?_eq_getElem hlt⟩
        obtain ⟨y, hy⟩ : ∃ y, m[k]? = some y := ⟨_, List.getElem?_eq_getElem (by have := HN.out; omega)⟩
        obtain ⟨ba, oa, rfl, _, _⟩ := H1.out.mem (by omega)
        obtain ⟨bb, ob, rfl, _, _⟩ := H2.out.mem (by have := HN.out; omega)
        have c1 := (H1.out.later hBr).at rfl hx
        have c2 := (H2.out.later hBr).at rfl hy
        by_cases hxy : x = y
        · subst hxy
          have HX := hid (And.intro hx hy)
          clear hx hy
          go_wp2_with fail
          go_quiet (fail)
          have hBq := below_drewN hBr nq
          go_wp2_with fail
          go_roundw
          case rel => exact ⟨k + 1, by omega, by go_num, hBq, fun j hj => by
            by_cases e : j = k
            · subst e; rw [HX.out.1, HX.out.2]
            · exact HALL.out j (by omega)⟩
          case measure => simp [intOf] <;> omega
        · have e1 : (x == y) = false := by rw [beq_eq_false_iff_ne]; exact hxy
          have hr : (l == m) = false := by
            rw [beq_eq_false_iff_ne]
            intro e
            rw [e, hy] at hx
            injection hx with hx
            exact hxy hx.symm
          have HR := hid hr
          clear hx hy hxy hr
          go_wp2_with fail
          go_quiet (fail)
          have hBq := below_drewN hBr nq
          go_wp2_with fail
          go_ret
          exact ⟨by rw [HR.out]; rfl, hBq⟩
      · obtain rfl : k = l.length := by omega
        have hr : (l == m) = true := by
          rw [beq_iff_eq]
          refine List.ext_getElem? fun i => ?_
          by_cases hi : i < l.length
          · exact HALL.out i hi
          · rw [List.getElem?_eq_none (by omega), List.getElem?_eq_none (by have := HN.out; omega)]
        have HR := hid hr
        clear hr
        go_wp2_with fail
        go_ret
        exact ⟨by rw [HR.out]; rfl, hBr⟩
  · have e1 : (l.length == m.length) = false := by rw [beq_eq_false_iff_ne]; exact hn
    have e2 : ((l.length : Int) == (m.length : Int)) = false := by rw [beq_eq_false_iff_ne]; omega
    have hr : (l == m) = false := by
      rw [beq_eq_false_iff_ne]
      intro e
      exact hn (by rw [e])
    rw [hr]
    clear hr h1 h2
    go_enter Try.func28, Try.ntmps28
    go_wp2_with fail
    go_ret
    exact ⟨rfl, Below.refl _ _⟩

/-- The two memories of the live question. -/
def hW0 : List Int := List.replicate (3 * 8) 0
def hW1 : List Int := setW (setW (setW hW0 3 1 7 5) 3 1 8 5) 3 3 0 5

end Go.Proofs.Yteeapkndappnoaa

/-
  Entries as numbers below 2^64: the plain law of layer 4, without a program.
-/
namespace Go.Proofs.Yteeapkndappnoaa
open Go.RowKit
set_option linter.unusedVariables false
set_option linter.unusedSimpArgs false

/-- An entry. -/
structure PteS where
  P : Bool
  W : Bool
  U : Bool
  A : Bool
  D : Bool
  PS : Bool
  NX : Bool
  Bad : Bool
  Frame : Int
deriving DecidableEq

/-- The k-th flag's bit. -/
def fbit : Nat → Int
  | 0 => 1 | 1 => 2 | 2 => 4 | 3 => 32 | 4 => 64 | 5 => 128 | _ => 9223372036854775808
/-- The k-th flag of an entry. -/
def PteS.fl (p : PteS) : Nat → Bool
  | 0 => p.P | 1 => p.W | 2 => p.U | 3 => p.A | 4 => p.D | 5 => p.PS | _ => p.NX
def usedI (v : Int) (written : Bool) : Int := if written then bits .or .u64 (bits .or .u64 v 32) 64 else bits .or .u64 v 32
def flg (v : Int) (k : Nat) : Bool := bits .and .u64 v (fbit k) != 0
def restI (v : Int) : Nat → Int
  | 0 => bits .andNot .u64 v 4294963200
  | k + 1 => bits .andNot .u64 (restI v k) (fbit k)
def frameI (v : Int) : Int := wrap64 (bits .and .u64 (v / 4096) 1048575)
def putI (p : PteS) : Nat → Int
  | 0 => p.Frame * 4096
  | k + 1 => if p.fl k then bits .or .u64 (putI p k) (fbit k) else putI p k
def putOk (p : PteS) : Bool := !p.Bad && decide (0 ≤ p.Frame) && decide (p.Frame < 1048576)

/-! ### in numbers -/
def badMask : Nat := 9223372032559812376
def badPos (i : Nat) : Bool := i == 3 || i == 4 || decide (8 ≤ i) && decide (i ≤ 11) || decide (32 ≤ i) && decide (i ≤ 62)
theorem badMask_bit (i : Nat) : badMask.testBit i = badPos i := by
  by_cases h : i < 64
  · have : ∀ i, i < 64 → badMask.testBit i = badPos i := by decide
    exact this i h
  · rw [Nat.testBit_lt_two_pow (Nat.lt_of_lt_of_le (show badMask < 2 ^ 64 by decide) (Nat.pow_le_pow_right (by decide) (by omega)))]
    symm
    simp [badPos]
    omega
def badN (V : Nat) : Bool := V &&& badMask != 0
def getS (V : Nat) : PteS := ⟨V.testBit 0, V.testBit 1, V.testBit 2, V.testBit 5, V.testBit 6, V.testBit 7, V.testBit 63, badN V, ((V / 4096 % 1048576 : Nat) : Int)⟩
def bitN (b : Bool) (n : Nat) : Nat := if b then n else 0
def putN (p : PteS) : Nat := p.Frame.toNat * 4096 ||| bitN p.P 1 ||| bitN p.W 2 ||| bitN p.U 4 ||| bitN p.A 32 ||| bitN p.D 64 ||| bitN p.PS 128 ||| bitN p.NX 9223372036854775808
def usedN (V : Nat) (written : Bool) : Nat := V ||| 32 ||| bitN written 64

theorem lt64 {V : Nat} (h : V < 18446744073709551616) {i : Nat} (hi : 64 ≤ i) : V.testBit i = false :=
  Nat.testBit_lt_two_pow (Nat.lt_of_lt_of_le (show V < 2 ^ 64 by simpa using h) (Nat.pow_le_pow_right (by decide) hi))

theorem badN_iff (V : Nat) : badN V = true ↔ ∃ i, V.testBit i = true ∧ badPos i = true := by
  unfold badN
  rw [bne_iff_ne]
  constructor
  · intro h
    obtain ⟨i, hi⟩ := Nat.exists_testBit_of_ne_zero h
    rw [Nat.testBit_and, badMask_bit, Bool.and_eq_true] at hi
    exact ⟨i, hi⟩
  · rintro ⟨i, h1, h2⟩ h
    have : (V &&& badMask).testBit i = true := by rw [Nat.testBit_and, badMask_bit, h1, h2]; rfl
    rw [h] at this
    simp at this
theorem badN_false (V : Nat) : badN V = false ↔ ∀ i, badPos i = true → V.testBit i = false := by
  rw [← Bool.not_eq_true, badN_iff]
  constructor
  · intro h i hi
    cases hv : V.testBit i with
    | false => rfl
    | true => exact absurd ⟨i, hv, hi⟩ h
  · rintro h ⟨i, h1, h2⟩
    rw [h i h2] at h1
    cases h1
theorem badN_congr {V W : Nat} (h : ∀ i, badPos i = true → V.testBit i = W.testBit i) : badN V = badN W := by
  rw [Bool.eq_iff_iff, badN_iff, badN_iff]
  constructor
  · rintro ⟨i, h1, h2⟩; exact ⟨i, (h i h2) ▸ h1, h2⟩
  · rintro ⟨i, h1, h2⟩; exact ⟨i, (h i h2).symm ▸ h1, h2⟩

theorem frame_bit (V j : Nat) : (V / 4096 % 1048576).testBit j = (decide (j < 20) && V.testBit (j + 12)) := by
  rw [show (1048576 : Nat) = 2 ^ 20 from rfl, show (4096 : Nat) = 2 ^ 12 from rfl, Nat.testBit_mod_two_pow, Nat.testBit_div_two_pow]
theorem frame_lt (V : Nat) : V / 4096 % 1048576 < 1048576 := Nat.mod_lt _ (by decide)

theorem bitN_bit (b : Bool) (n i : Nat) : (bitN b (2 ^ n)).testBit i = (b && decide (n = i)) := by
  cases b
  · simp [bitN]
  · simp [bitN, Nat.testBit_two_pow]

/-- The bits of an entry's word. -/
theorem putN_bit (p : PteS) (i : Nat) : (putN p).testBit i = ((decide (12 ≤ i) && p.Frame.toNat.testBit (i - 12)) || (p.P && decide (0 = i)) || (p.W && decide (1 = i)) || (p.U && decide (2 = i)) || (p.A && decide (5 = i)) || (p.D && decide (6 = i)) || (p.PS && decide (7 = i)) || (p.NX && decide (63 = i))) := by
  unfold putN
  simp only [Nat.testBit_or]
  rw [show p.Frame.toNat * 4096 = p.Frame.toNat <<< 12 from by rw [Nat.shiftLeft_eq], Nat.testBit_shiftLeft, show (bitN p.P 1).testBit i = (p.P && decide (0 = i)) from bitN_bit p.P 0 i, show (bitN p.W 2).testBit i = (p.W && decide (1 = i)) from bitN_bit p.W 1 i, show (bitN p.U 4).testBit i = (p.U && decide (2 = i)) from bitN_bit p.U 2 i,
    show (bitN p.A 32).testBit i = (p.A && decide (5 = i)) from bitN_bit p.A 5 i, show (bitN p.D 64).testBit i = (p.D && decide (6 = i)) from bitN_bit p.D 6 i, show (bitN p.PS 128).testBit i = (p.PS && decide (7 = i)) from bitN_bit p.PS 7 i, show (bitN p.NX 9223372036854775808).testBit i = (p.NX && decide (63 = i)) from bitN_bit p.NX 63 i]

theorem low_frame {F : Nat} (h : F < 1048576) (j : Nat) (hj : 20 ≤ j) : F.testBit j = false :=
  Nat.testBit_lt_two_pow (Nat.lt_of_lt_of_le (show F < 2 ^ 20 by simpa using h) (Nat.pow_le_pow_right (by decide) hj))

theorem putOk_iff (p : PteS) : putOk p = true ↔ p.Bad = false ∧ 0 ≤ p.Frame ∧ p.Frame < 1048576 := by
  simp [putOk, and_assoc]

/-- What is put is got. -/
theorem get_put (p : PteS) (h : putOk p = true) : getS (putN p) = p := by
  rw [putOk_iff] at h
  obtain ⟨h1, h2, h3⟩ := h
  have hF : p.Frame.toNat < 1048576 := by omega
  have e7 : badN (putN p) = false := by
    rw [badN_false]
    intro i hi
    rw [putN_bit]
    have hb : i = 3 ∨ i = 4 ∨ 8 ≤ i ∧ i ≤ 11 ∨ 32 ≤ i ∧ i ≤ 62 := by
      simp [badPos] at hi
      omega
    have e : (decide (12 ≤ i) && p.Frame.toNat.testBit (i - 12)) = false := by
      by_cases h12 : 12 ≤ i
      · rw [low_frame hF (i - 12) (by omega)]; simp
      · simp [h12]
    rw [e]
    have d0 : decide (0 = i) = false := by rw [decide_eq_false_iff_not]; omega
    have d1 : decide (1 = i) = false := by rw [decide_eq_false_iff_not]; omega
    have d2 : decide (2 = i) = false := by rw [decide_eq_false_iff_not]; omega
    have d5 : decide (5 = i) = false := by rw [decide_eq_false_iff_not]; omega
    have d6 : decide (6 = i) = false := by rw [decide_eq_false_iff_not]; omega
    have d7 : decide (7 = i) = false := by rw [decide_eq_false_iff_not]; omega
    have d63 : decide (63 = i) = false := by rw [decide_eq_false_iff_not]; omega
    simp [d0, d1, d2, d5, d6, d7, d63]
  have e8 : putN p / 4096 % 1048576 = p.Frame.toNat := by
    apply Nat.eq_of_testBit_eq
    intro j
    rw [frame_bit, putN_bit]
    by_cases hj : j < 20
    · simp [hj, show j + 12 - 12 = j from by omega]
      omega
    · rw [low_frame hF j (by omega)]
      simp [hj]
  unfold getS
  rw [e7, e8]
  simp only [putN_bit]
  have e63 : p.Frame.toNat.testBit (63 - 12) = false := low_frame hF _ (by omega)
  rw [e63]
  have e9 : ((p.Frame.toNat : Nat) : Int) = p.Frame := by omega
  rw [e9]
  cases p
  simp at h1
  subst h1
  simp

theorem getS_ok (V : Nat) : putOk (getS V) = !badN V := by
  have h := frame_lt V
  show (!badN V && decide (0 ≤ ((V / 4096 % 1048576 : Nat) : Int)) && decide (((V / 4096 % 1048576 : Nat) : Int) < 1048576)) = !badN V
  generalize V / 4096 % 1048576 = F at *
  have d1 : decide (0 ≤ (F : Int)) = true := by rw [decide_eq_true_eq]; omega
  have d2 : decide ((F : Int) < 1048576) = true := by rw [decide_eq_true_eq]; omega
  rw [d1, d2]
  simp

/-- A word that is not bad is put as it was. -/
theorem put_get {V : Nat} (hV : V < 18446744073709551616) (h : badN V = false) : putN (getS V) = V := by
  rw [badN_false] at h
  apply Nat.eq_of_testBit_eq
  intro i
  rw [putN_bit]
  simp only [getS, Int.toNat_natCast, frame_bit]
  by_cases h64 : 64 ≤ i
  · rw [lt64 hV h64]
    have d0 : decide (0 = i) = false := by rw [decide_eq_false_iff_not]; omega
    have d1 : decide (1 = i) = false := by rw [decide_eq_false_iff_not]; omega
    have d2 : decide (2 = i) = false := by rw [decide_eq_false_iff_not]; omega
    have d5 : decide (5 = i) = false := by rw [decide_eq_false_iff_not]; omega
    have d6 : decide (6 = i) = false := by rw [decide_eq_false_iff_not]; omega
    have d7 : decide (7 = i) = false := by rw [decide_eq_false_iff_not]; omega
    have d63 : decide (63 = i) = false := by rw [decide_eq_false_iff_not]; omega
    have d20 : decide (i - 12 < 20) = false := by rw [decide_eq_false_iff_not]; omega
    simp [d0, d1, d2, d5, d6, d7, d63, d20]
  · by_cases hf : 12 ≤ i ∧ i < 32
    · have d0 : decide (0 = i) = false := by rw [decide_eq_false_iff_not]; omega
      have d1 : decide (1 = i) = false := by rw [decide_eq_false_iff_not]; omega
      have d2 : decide (2 = i) = false := by rw [decide_eq_false_iff_not]; omega
      have d5 : decide (5 = i) = false := by rw [decide_eq_false_iff_not]; omega
      have d6 : decide (6 = i) = false := by rw [decide_eq_false_iff_not]; omega
      have d7 : decide (7 = i) = false := by rw [decide_eq_false_iff_not]; omega
      have d63 : decide (63 = i) = false := by rw [decide_eq_false_iff_not]; omega
      have d20 : decide (i - 12 < 20) = true := by rw [decide_eq_true_eq]; omega
      have d12 : decide (12 ≤ i) = true := by rw [decide_eq_true_eq]; omega
      simp [d0, d1, d2, d5, d6, d7, d63, d20, d12, show i - 12 + 12 = i from by omega]
    · have e : (decide (12 ≤ i) && (decide (i - 12 < 20) && V.testBit (i - 12 + 12))) = false := by
        by_cases h12 : 12 ≤ i
        · have d20 : decide (i - 12 < 20) = false := by rw [decide_eq_false_iff_not]; omega
          simp [d20]
        · simp [h12]
      rw [e]
      by_cases hb : badPos i = true
      · rw [h i hb]
        have hb' : i = 3 ∨ i = 4 ∨ 8 ≤ i ∧ i ≤ 11 ∨ 32 ≤ i ∧ i ≤ 62 := by
          simp [badPos] at hb
          omega
        have d0 : decide (0 = i) = false := by rw [decide_eq_false_iff_not]; omega
        have d1 : decide (1 = i) = false := by rw [decide_eq_false_iff_not]; omega
        have d2 : decide (2 = i) = false := by rw [decide_eq_false_iff_not]; omega
        have d5 : decide (5 = i) = false := by rw [decide_eq_false_iff_not]; omega
        have d6 : decide (6 = i) = false := by rw [decide_eq_false_iff_not]; omega
        have d7 : decide (7 = i) = false := by rw [decide_eq_false_iff_not]; omega
        have d63 : decide (63 = i) = false := by rw [decide_eq_false_iff_not]; omega
        simp [d0, d1, d2, d5, d6, d7, d63]
      · have hc : i = 0 ∨ i = 1 ∨ i = 2 ∨ i = 5 ∨ i = 6 ∨ i = 7 ∨ i = 63 := by
          simp [badPos] at hb
          omega
        rcases hc with rfl | rfl | rfl | rfl | rfl | rfl | rfl <;> simp

theorem putN_lt (p : PteS) (h : putOk p = true) : putN p < 18446744073709551616 := by
  rw [putOk_iff] at h
  have b : ∀ (c : Bool) (n : Nat), n < 2 ^ 64 → bitN c n < 2 ^ 64 := fun c n hn => by
    cases c
    · simp [bitN]
    · simpa [bitN] using hn
  unfold putN
  have h0 : p.Frame.toNat * 4096 < 2 ^ 64 := by omega
  exact Nat.or_lt_two_pow (Nat.or_lt_two_pow (Nat.or_lt_two_pow (Nat.or_lt_two_pow (Nat.or_lt_two_pow (Nat.or_lt_two_pow (Nat.or_lt_two_pow h0 (b _ _ (by decide))) (b _ _ (by decide))) (b _ _ (by decide))) (b _ _ (by decide))) (b _ _ (by decide))) (b _ _ (by decide))) (b _ _ (by decide))

/-! ### the machine's words and the numbers -/
theorem flg_eq {V : Nat} (hV : V < 18446744073709551616) (i n : Nat) (hi : fbit i = ((2 ^ n : Nat) : Int)) (hn : 2 ^ n < 18446744073709551616) : flg (V : Int) i = V.testBit n := by
  unfold flg
  rw [hi, u64_and_nat V (2 ^ n) hV hn, nat_bit, Nat.testBit_eq_decide_div_mod_eq, Bool.eq_iff_iff, bne_iff_ne, decide_eq_true_eq]
  have h2 : V / 2 ^ n % 2 < 2 := Nat.mod_lt _ (by decide)
  have hp : 0 < 2 ^ n := Nat.two_pow_pos n
  constructor
  · intro h
    by_cases h1 : V / 2 ^ n % 2 = 1
    · exact h1
    · exfalso
      apply h
      have h0 : V / 2 ^ n % 2 = 0 := by omega
      rw [h0]
      simp
  · intro h e
    rw [h] at e
    omega

theorem restI_eq {V : Nat} (hV : V < 18446744073709551616) : restI (V : Int) 7 = ((V &&& badMask : Nat) : Int) := by
  have lt : ∀ (a b : Nat), a < 18446744073709551616 → a &&& b < 18446744073709551616 := fun a b h => Nat.lt_of_le_of_lt Nat.and_le_left h
  simp only [restI, fbit]
  rw [show (4294963200 : Int) = ((4294963200 : Nat) : Int) from rfl, u64_andNot_nat V _ hV (by decide)]
  rw [show (1 : Int) = ((1 : Nat) : Int) from rfl, u64_andNot_nat _ _ (lt _ _ hV) (by decide)]
  rw [show (2 : Int) = ((2 : Nat) : Int) from rfl, u64_andNot_nat _ _ (lt _ _ (lt _ _ hV)) (by decide)]
  rw [show (4 : Int) = ((4 : Nat) : Int) from rfl, u64_andNot_nat _ _ (lt _ _ (lt _ _ (lt _ _ hV))) (by decide)]
  rw [show (32 : Int) = ((32 : Nat) : Int) from rfl, u64_andNot_nat _ _ (lt _ _ (lt _ _ (lt _ _ (lt _ _ hV)))) (by decide)]
  rw [show (64 : Int) = ((64 : Nat) : Int) from rfl, u64_andNot_nat _ _ (lt _ _ (lt _ _ (lt _ _ (lt _ _ (lt _ _ hV))))) (by decide)]
  rw [show (128 : Int) = ((128 : Nat) : Int) from rfl, u64_andNot_nat _ _ (lt _ _ (lt _ _ (lt _ _ (lt _ _ (lt _ _ (lt _ _ hV)))))) (by decide)]
  rw [show (9223372036854775808 : Int) = ((9223372036854775808 : Nat) : Int) from rfl, u64_andNot_nat _ _ (lt _ _ (lt _ _ (lt _ _ (lt _ _ (lt _ _ (lt _ _ (lt _ _ hV))))))) (by decide)]
  simp only [Nat.and_assoc]
  congr 2

theorem frameI_eq {V : Nat} (hV : V < 18446744073709551616) : frameI (V : Int) = ((V / 4096 % 1048576 : Nat) : Int) := by
  unfold frameI
  rw [show ((V : Int) / 4096) = ((V / 4096 : Nat) : Int) from by omega, show (1048575 : Int) = ((1048575 : Nat) : Int) from rfl, u64_and_nat _ _ (by omega) (by decide)]
  rw [show V / 4096 &&& 1048575 = V / 4096 % 1048576 from Nat.and_two_pow_sub_one_eq_mod _ 20]
  have := frame_lt V
  generalize V / 4096 % 1048576 = F at *
  unfold wrap64
  omega

theorem usedI_eq {V : Nat} (hV : V < 18446744073709551616) (written : Bool) : usedI (V : Int) written = ((usedN V written : Nat) : Int) := by
  have l1 : V ||| 32 < 18446744073709551616 := Nat.or_lt_two_pow (n := 64) (by simpa using hV) (by decide)
  have e1 : bits .or .u64 (V : Int) 32 = ((V ||| 32 : Nat) : Int) := u64_or_nat V 32 hV (by decide)
  cases written
  · simp [usedI, usedN, bitN, e1]
  · have e2 : bits .or .u64 ((V ||| 32 : Nat) : Int) 64 = ((V ||| 32 ||| 64 : Nat) : Int) := u64_or_nat _ 64 l1 (by decide)
    unfold usedI
    rw [if_pos rfl, e1, e2]
    rfl

theorem putI_eq (p : PteS) (h : putOk p = true) : putI p 7 = ((putN p : Nat) : Int) := by
  rw [putOk_iff] at h
  have h0 : p.Frame.toNat * 4096 < 2 ^ 64 := by omega
  have e0 : putI p 0 = ((p.Frame.toNat * 4096 : Nat) : Int) := by simp only [putI]; omega
  have step : ∀ (k n N : Nat), N < 2 ^ 64 → n < 2 ^ 64 → putI p k = (N : Int) → fbit k = (n : Int) → putI p (k + 1) = ((N ||| bitN (p.fl k) n : Nat) : Int) ∧ N ||| bitN (p.fl k) n < 2 ^ 64 := by
    intro k n N hN hn hp hf
    simp only [putI]
    rw [hp, hf]
    cases p.fl k with
    | false => exact ⟨by simp [bitN], by simpa [bitN] using hN⟩
    | true => exact ⟨by rw [if_pos rfl]; exact u64_or_nat N n hN hn, Nat.or_lt_two_pow hN (by simpa [bitN] using hn)⟩
  obtain ⟨e1, l1⟩ := step 0 1 _ h0 (by decide) e0 rfl
  obtain ⟨e2, l2⟩ := step 1 2 _ l1 (by decide) e1 rfl
  obtain ⟨e3, l3⟩ := step 2 4 _ l2 (by decide) e2 rfl
  obtain ⟨e4, l4⟩ := step 3 32 _ l3 (by decide) e3 rfl
  obtain ⟨e5, l5⟩ := step 4 64 _ l4 (by decide) e4 rfl
  obtain ⟨e6, l6⟩ := step 5 128 _ l5 (by decide) e5 rfl
  obtain ⟨e7, l7⟩ := step 6 9223372036854775808 _ l6 (by decide) e6 rfl
  rw [e7]
  rfl

end Go.Proofs.Yteeapkndappnoaa

/-
  The plain side of chapter 14, and how shadow pages lie in memory.
-/
namespace Go.Proofs.Yteeapkndappnoaa
open Go.RowKit
set_option linter.unusedVariables false
set_option linter.unusedSimpArgs false

structure KeyS where
  g : Int
  lv : Int
  ro : Int
deriving DecidableEq
structure SlotS where
  kd : Int
  to : Int
  w : Bool
  u : Bool
  x : Bool
deriving DecidableEq
structure PageS where
  f : Int
  k : KeyS
  s : List SlotS
deriving DecidableEq
def keyL (k : KeyS) : List Value := [.int .i64 k.g, .int .i64 k.lv, .int .i64 k.ro]
def keyC (k : KeyS) : Array Value := #[.int .i64 k.g, .int .i64 k.lv, .int .i64 k.ro]
def slotL (s : SlotS) : List Value := [.int .i64 s.kd, .int .i64 s.to, .bool s.w, .bool s.u, .bool s.x]
def slotC (s : SlotS) : Array Value := #[.int .i64 s.kd, .int .i64 s.to, .bool s.w, .bool s.u, .bool s.x]
def keyZ : KeyS := ⟨0, 0, 0⟩
def slotZ : SlotS := ⟨0, 0, false, false, false⟩
def slotsL (l : List SlotS) : List Value := l.flatMap slotL
def pageL (p : PageS) : List Value := [.int .i64 p.f, .int .i64 p.k.g, .int .i64 p.k.lv, .int .i64 p.k.ro] ++ slotsL p.s
def pageC (p : PageS) : Array Value := (pageL p).toArray

theorem slotsL_length (l : List SlotS) : (slotsL l).length = l.length * 5 := flat_length slotL 5 (fun _ => rfl) l
theorem slotsL_get {l : List SlotS} {i j : Nat} {x : SlotS} {u : Value} (h : l[i]? = some x) (hj : (slotL x)[j]? = some u) : (slotsL l)[i * 5 + j]? = some u := by
  have hj5 : j < 5 := by have := (List.getElem?_eq_some_iff.1 hj).1; simpa [slotL] using this
  rw [slotsL, flat_get slotL 5 (fun _ => rfl) l i j x h hj5]
  exact hj
theorem slotsL_set (l : List SlotS) (i : Nat) (x : SlotS) (h : i < l.length) : slotsL (l.set i x) = (slotsL l).take (i * 5) ++ slotL x ++ (slotsL l).drop (i * 5 + 5) := by
  have hs : l = l.take i ++ l[i] :: l.drop (i + 1) := by rw [← List.drop_eq_getElem_cons h, List.take_append_drop]
  have e1 : slotsL l = slotsL (l.take i) ++ slotL l[i] ++ slotsL (l.drop (i + 1)) := by
    conv => lhs; rw [hs]
    simp only [slotsL, List.flatMap_append, List.flatMap_cons, List.append_assoc]
  have e2 : (slotsL (l.take i)).length = i * 5 := by rw [slotsL_length]; simp; omega
  have e3 : (slotL l[i]).length = 5 := rfl
  have e4 : l.set i x = l.take i ++ x :: l.drop (i + 1) := List.set_eq_take_append_cons_drop.trans (if_pos h)
  have e5 : slotsL (l.set i x) = slotsL (l.take i) ++ slotL x ++ slotsL (l.drop (i + 1)) := by
    rw [e4]
    simp only [slotsL, List.flatMap_append, List.flatMap_cons, List.append_assoc]
  rw [e5, e1]
  generalize slotsL (l.take i) = A at *
  generalize slotsL (l.drop (i + 1)) = D at *
  generalize slotL l[i] = M at *
  have f1 : (A ++ M ++ D).take (i * 5) = A := by rw [List.append_assoc, List.take_append_of_le_length (by omega), List.take_of_length_le (by omega)]
  have f2 : (A ++ M ++ D).drop (i * 5 + 5) = D := by rw [List.drop_append, List.drop_of_length_le (by simp; omega)]; simp [e2, e3]
  rw [f1, f2]
theorem pageL_length (p : PageS) : (pageL p).length = 4 + p.s.length * 5 := by simp [pageL, slotsL_length]; omega
theorem pageC_slot {p : PageS} {i j : Nat} {x : SlotS} {u : Value} (h : p.s[i]? = some x) (hj : (slotL x)[j]? = some u) : (pageC p)[4 + i * 5 + j]? = some u := by
  simp only [pageC, pageL, List.getElem?_toArray]
  rw [List.getElem?_append_right (by simp; omega)]
  have : 4 + i * 5 + j - [Value.int .i64 p.f, .int .i64 p.k.g, .int .i64 p.k.lv, .int .i64 p.k.ro].length = i * 5 + j := by simp; omega
  rw [this]
  exact slotsL_get h hj
/-- Another slot, in a page's cells. -/
theorem pageC_set (p : PageS) (i : Nat) (x : SlotS) (h : i < p.s.length) : ((pageL p).take (4 + i * 5) ++ slotL x ++ (pageL p).drop (4 + i * 5 + 5)).toArray = pageC { p with s := p.s.set i x } := by
  simp only [pageC, pageL, slotsL_set _ _ _ h]
  congr 1
  have e : ([Value.int .i64 p.f, .int .i64 p.k.g, .int .i64 p.k.lv, .int .i64 p.k.ro] : List Value).length = 4 := rfl
  rw [List.take_append, List.drop_append, e]
  have e1 : 4 + i * 5 - 4 = i * 5 := by omega
  have e2 : 4 + i * 5 + 5 - 4 = i * 5 + 5 := by omega
  rw [e1, e2, List.take_of_length_le (by rw [e]; omega), List.drop_of_length_le (by rw [e]; omega)]
  simp
theorem pageC_one (p : PageS) : ∀ u ∈ (pageC p).toList, u.oneCell' = true := by
  intro u hu
  simp only [pageC, pageL, List.mem_append] at hu
  rcases hu with hu | hu
  · simp at hu
    rcases hu with rfl | rfl | rfl | rfl <;> rfl
  · simp only [slotsL, List.mem_flatMap] at hu
    obtain ⟨x, _, hu⟩ := hu
    simp [slotL] at hu
    rcases hu with rfl | rfl | rfl | rfl | rfl <;> rfl

def rightK (k : KeyS) : Prop := 1 ≤ k.lv ∧ k.lv ≤ 3 ∧ 0 ≤ k.ro ∧ k.ro ≤ 2 ∧ (k.ro = 0 ∨ k.lv = 1)
instance (k : KeyS) : Decidable (rightK k) := by unfold rightK; infer_instance

def pageAt (ps : List PageS) (f : Int) : Option PageS := ps.find? fun p => p.f == f
def keyAt (ps : List PageS) (f : Int) : KeyS := match pageAt ps f with | some p => p.k | none => keyZ
def findK (ps : List PageS) (k : KeyS) : Option PageS := ps.find? fun p => decide (p.k = k)
def ofP (g : Int) (k : KeyS) : Bool := k.ro == 0 && k.g == g
def framesOf (is : KeyS → Bool) (ps : List PageS) : List Int := (ps.filter fun p => is p.k).map (·.f)
def slotAt (ps : List PageS) (f i : Int) : Option SlotS := match pageAt ps f with | some p => if 0 ≤ i ∧ i < 8 then p.s[i.toNat]? else none | none => none
/-- All slots, and where they are. -/
def allS (ps : List PageS) : List ((Int × Int) × SlotS) := ps.flatMap fun p => p.s.zipIdx.map fun x => ((p.f, (x.2 : Int)), x.1)
def tellB (kd to : Int) (x : SlotS) : Bool := x.kd == kd && x.to == to
def toldL (kd to : Int) (l : List ((Int × Int) × SlotS)) : List (Int × Int) := (l.filter fun x => tellB kd to x.2).map Prod.fst
def setSlot (ps : List PageS) (f : Int) (i : Nat) (x : SlotS) : List PageS := ps.map fun p => if p.f = f then { p with s := p.s.set i x } else p
def pteOf (x : SlotS) (h : Int) : PteS := ⟨true, x.w, x.u, false, false, false, !x.x, false, h⟩
def wordOf (x : SlotS) (h : Int) : Int := if x.kd = 0 then 0 else if putOk (pteOf x h) then (putN (pteOf x h) : Int) else 0

/-- What is always so of shadow pages. -/
structure StoP (n : Nat) (first many : Int) (F : List Int) (ps : List PageS) : Prop where
  s8 : ∀ p ∈ ps, p.s.length = 8
  ok : ∀ p ∈ ps, rightK p.k
  nd : (ps.map (·.f)).Nodup
  kd : (ps.map (·.k)).Nodup
  rg : ∀ p ∈ ps, first ≤ p.f ∧ p.f < first + many
  df : ∀ p ∈ ps, p.f ∉ F
  hn : first + many ≤ n
  ln : (F.length : Int) + ps.length = many
  ff : FreeFits first many F

/-- All there is. -/
structure StS where
  W : List Int
  F : List Int
  ps : List PageS
def putS (n : Nat) (S : StS) (f i : Int) (x : SlotS) (h : Int) : StS := { S with W := setW S.W n f i (wordOf x h), ps := setSlot S.ps f i.toNat x }
def makeB (S : StS) (k : KeyS) : Bool := (findK S.ps k).isNone && decide (rightK k) && takeB S.F
def makeS (n : Nat) (S : StS) (k : KeyS) : StS := if makeB S k then ⟨fillW S.W n (takeV S.F) (List.replicate 8 0), S.F.dropLast, S.ps ++ [⟨takeV S.F, k, List.replicate 8 slotZ⟩]⟩ else S
def makeV (S : StS) (k : KeyS) : Int := if makeB S k then takeV S.F else 0
def childB (S : StS) (f i c : Int) : Bool := (slotAt S.ps f i).isSome && (pageAt S.ps c).isSome && decide ((keyAt S.ps c).lv = (keyAt S.ps f).lv - 1)
def childS (n : Nat) (S : StS) (f i c : Int) (r : Bool × Bool × Bool) : StS := if childB S f i c then putS n S f i ⟨1, c, r.1, r.2.1, r.2.2⟩ c else S
def leafB (n : Nat) (S : StS) (f i h : Int) : Bool := (slotAt S.ps f i).isSome && decide ((keyAt S.ps f).lv = 1) && decide (0 ≤ h) && decide (h < n)
def leafS (n : Nat) (S : StS) (f i g h : Int) (r : Bool × Bool × Bool) : StS := if leafB n S f i h then putS n S f i ⟨2, g, r.1, r.2.1, r.2.2⟩ h else S
def clearB (S : StS) (f i : Int) : Bool := match slotAt S.ps f i with | some x => x.kd != 0 | none => false
def clearS (n : Nat) (S : StS) (f i : Int) : StS := if clearB S f i then putS n S f i slotZ 0 else S
def clearL (n : Nat) (S : StS) (l : List (Int × Int)) : StS := l.foldl (fun S a => clearS n S a.1 a.2) S
def clearN (n : Nat) (S : StS) (f : Int) (k : Nat) : StS := (List.range k).foldl (fun S i => clearS n S f (i : Nat)) S
def dropB (S : StS) (f : Int) : Bool := (pageAt S.ps f).isSome
/-- All that tells it is cleared, and all of it. -/
def dropC (n : Nat) (S : StS) (f : Int) : StS := clearN n (clearL n S (toldL 1 f (allS S.ps))) f 8
def dropS (n : Nat) (S : StS) (f : Int) : StS := if dropB S f then ⟨(dropC n S f).W, (dropC n S f).F ++ [f], (dropC n S f).ps.filter fun p => p.f != f⟩ else S

/-! ### in memory -/
def ptrV (b : Nat) : Value := .pointer (some ⟨b, 0, none⟩)
def ptrs (q : List (Nat × PageS)) : List Value := q.map fun x => ptrV x.1
def pgs (q : List (Nat × PageS)) : List Asr := q.map fun x => blk x.1 95 (pageC x.2)
theorem ptrs_length (q : List (Nat × PageS)) : (ptrs q).length = q.length := by simp [ptrs]
theorem ptrs_get {q : List (Nat × PageS)} {j : Nat} {x : Nat × PageS} (h : q[j]? = some x) : (ptrs q)[j]? = some (ptrV x.1) := by simp [ptrs, h]

def StoA (sb hb n : Nat) (first many : Int) (F : List Int) (ps : List PageS) : Asr :=
  Asr.ex fun x : Nat × Value × List (Nat × PageS) => Asr.and (x.2.2.map Prod.snd = ps ∧ StoP n first many F ps) <| Asr.all (blk sb 88 #[ptrV hb, ptrV x.1, x.2.1] :: row 91 1 x.2.1 x.2.2.length (ptrs x.2.2) :: FreeA x.1 first many F :: pgs x.2.2)
theorem StoA.open {sb hb n : Nat} {first many : Int} {F : List Int} {ps : List PageS} {w : World} {B : Nat} {X : List Asr} (hH : Has w B (StoA sb hb n first many F ps :: X)) :
    StoP n first many F ps ∧ ∃ (fb : Nat) (v : Value) (q : List (Nat × PageS)), q.map Prod.snd = ps ∧ Has w B (blk sb 88 #[ptrV hb, ptrV fb, v] :: row 91 1 v q.length (ptrs q) :: FreeA fb first many F :: (pgs q ++ X)) := by
  obtain ⟨⟨fb, v, q⟩, h1⟩ := hH.open_ex
  obtain ⟨⟨h2, h3⟩, h4⟩ := h1.open_and
  exact ⟨h3, fb, v, q, h2, h4.open_all⟩
theorem StoA.shut {sb hb n : Nat} {first many : Int} {F : List Int} {w : World} {B : Nat} {X : List Asr} (fb : Nat) (v : Value) (q : List (Nat × PageS)) (hP : StoP n first many F (q.map Prod.snd))
    (hH : Has w B (blk sb 88 #[ptrV hb, ptrV fb, v] :: row 91 1 v q.length (ptrs q) :: FreeA fb first many F :: (pgs q ++ X))) : Has w B (StoA sb hb n first many F (q.map Prod.snd) :: X) :=
  Has.shut_ex (A := fun x : Nat × Value × List (Nat × PageS) => Asr.and (x.2.2.map Prod.snd = q.map Prod.snd ∧ StoP n first many F (q.map Prod.snd)) <| Asr.all (blk sb 88 #[ptrV hb, ptrV x.1, x.2.1] :: row 91 1 x.2.1 x.2.2.length (ptrs x.2.2) :: FreeA x.1 first many F :: pgs x.2.2)) (fb, v, q)
    (Has.shut_and ⟨rfl, hP⟩ (Has.shut_all (blk sb 88 #[ptrV hb, ptrV fb, v] :: row 91 1 v q.length (ptrs q) :: FreeA fb first many F :: pgs q) hH))
theorem StoA.fits {sb hb n : Nat} {first many : Int} {F : List Int} {ps : List PageS} {w : World} {B : Nat} {X : List Asr} (hH : Has w B (StoA sb hb n first many F ps :: X)) : StoP n first many F ps := (StoA.open hH).1
theorem StoP.len {n : Nat} {first many : Int} {F : List Int} {ps : List PageS} (h : StoP n first many F ps) : ps.length ≤ 256 := by
  have := h.ln; have := h.ff.a1; have := h.ff.a4; omega

/-- One page among those of a list. -/
theorem pgs_split {q : List (Nat × PageS)} {j : Nat} {x : Nat × PageS} (h : q[j]? = some x) (L1 X : List Asr) : L1 ++ (pgs q ++ X) = (L1 ++ pgs (q.take j)) ++ blk x.1 95 (pageC x.2) :: (pgs (q.drop (j + 1)) ++ X) := by
  obtain ⟨hj, hv⟩ := List.getElem?_eq_some_iff.1 h
  have hs : q = q.take j ++ x :: q.drop (j + 1) := by rw [← hv, ← List.drop_eq_getElem_cons hj, List.take_append_drop]
  conv => lhs; rw [hs]
  simp [pgs]
theorem pgs_set {q : List (Nat × PageS)} {j : Nat} (hj : j < q.length) (x : Nat × PageS) (L1 X : List Asr) : (L1 ++ pgs (q.take j)) ++ blk x.1 95 (pageC x.2) :: (pgs (q.drop (j + 1)) ++ X) = L1 ++ (pgs (q.set j x) ++ X) := by
  rw [List.set_eq_take_append_cons_drop, if_pos hj]
  simp [pgs]
theorem ptrs_set {q : List (Nat × PageS)} {j b : Nat} {p p' : PageS} (h : q[j]? = some (b, p)) : ptrs (q.set j (b, p')) = ptrs q := by
  refine List.ext_getElem? fun i => ?_
  simp only [ptrs, List.getElem?_map, List.getElem?_set]
  by_cases e : j = i
  · subst e
    have := (List.getElem?_eq_some_iff.1 h).1
    have h3 := (List.getElem?_eq_some_iff.1 h).2
    simp [this, h3]
  · simp [e]
theorem pgs_at {q : List (Nat × PageS)} {j : Nat} {x : Nat × PageS} {w : World} {B : Nat} (L1 X : List Asr) (hH : Has w B (L1 ++ (pgs q ++ X))) (h : q[j]? = some x) : w.heap[x.1]? = some (.cells (pageC x.2) 95 (0, 0)) ∧ B ≤ x.1 ∧ x.1 < w.heap.size := by
  rw [pgs_split h] at hH
  exact hH.blk_at _ _

/-- What the walks read: the pages, each with its cells. -/
structure PgR (w : World) (v : Value) (q : List (Nat × PageS)) : Prop where
  prow : ∃ ao cap, v = .slice ao q.length cap ∧ (0 < q.length → ∃ g, ao = some ⟨g, 0, none⟩ ∧ ∀ (j : Nat) x, q[j]? = some x → w.cell? ⟨g, j, none⟩ = some (.pointer (some ⟨x.1, 0, none⟩)))
  ppg : ∀ (j : Nat) x, q[j]? = some x → w.heap[x.1]? = some (.cells (pageC x.2) 95 (0, 0)) ∧ x.1 < w.heap.size
theorem PgR.of {w : World} {B : Nat} {v : Value} {q : List (Nat × PageS)} {A C : Asr} {X : List Asr} (hH : Has w B (A :: row 91 1 v q.length (ptrs q) :: C :: (pgs q ++ X))) : PgR w v q := by
  refine ⟨?_, fun j x hx => ?_⟩
  · obtain ⟨ao, cap, rfl, _, _, hg⟩ := hH.row_form [_] _
    refine ⟨ao, cap, rfl, fun h0 => ?_⟩
    obtain ⟨g, rfl⟩ := hg h0
    exact ⟨g, rfl, fun j x hx => hH.row_cell [_] _ j (ptrs_get hx)⟩
  · have h := pgs_at [_, _, _] X hH hx
    exact ⟨h.1, h.2.2⟩
theorem PgR.drewN {w : World} {v : Value} {q : List (Nat × PageS)} (h : PgR w v q) (m : Nat) : PgR (w.drewN m) v q := ⟨h.prow, h.ppg⟩
theorem PgR.page {w : World} {v : Value} {q : List (Nat × PageS)} (h : PgR w v q) {j : Nat} {x : Nat × PageS} (hx : q[j]? = some x) {i : Nat} {u : Value} (hu : (pageC x.2)[i]? = some u) : w.cell? ⟨x.1, i, none⟩ = some u := cell_of_blk (h.ppg j x hx).1 hu

end Go.Proofs.Yteeapkndappnoaa

/-
  Whole structs, loaded and stored as one step of a region that draws its order.
-/
namespace Go.Proofs.Yteeapkndappnoaa
open Go.RowKit
set_option linter.unusedVariables false
set_option linter.unusedSimpArgs false

section
variable {P : Program} {w : World} {B b : Nat} {T : TypeId} {cs : Array Value} {ops : Array Oper} {o : Oper} {a : Act} {K : Act → World → Prop} {Q : Exit → Act → World → Prop} {E : Prop}

theorem step_store_all (L1 L2 : List Asr) (hH : Has w B (L1 ++ blk b T cs :: L2)) (ty : TypeId) (x v : Operand) (ho : o.op = .store ty x v) (hx : a.eval x = .pointer (some ⟨b, 0, none⟩)) (vs : Array Value) (hv : a.eval v = .agg vs)
    (hi : (P.info? ty).map (·.size) = some vs.size) (hk : vs.size = cs.size) (h1 : ∀ u ∈ vs.toList, u.oneCell' = true)
    (hK : ∀ w', Has w' B (L1 ++ blk b T vs :: L2) → Below B w w' → w'.heap.size = w.heap.size → K (a.put o.dst undef) w') : Oper.wp P o a w K Q := by
  obtain ⟨hb, hB, hlt⟩ := hH.blk_at L1 L2
  have hst := run_storeCells_at (P := P) b 0 T vs.toList 0 cs w hb (by simp [hk]) h1
  have hsz : (sizeOf ty).run P w = .ok vs.size w := by
    cases hq : P.info? ty with
    | none => simp [hq] at hi
    | some i => simp [hq] at hi; simp [sizeOf, typeInfo, hq, hi]
  unfold Oper.wp execOp
  simp only [ho, hx, hv, Instr.storeAt, Instr.sureAddr, storeVar, Value.cells, Sem.run_bind, Sem.run_pure, Result.andThen_ok, hsz, ne_eq, not_true_eq_false, if_false, hst]
  have e : (cs.toList.take 0 ++ vs.toList ++ cs.toList.drop (0 + vs.size)).toArray = vs := by
    rw [List.take_zero, List.nil_append, List.drop_of_length_le (by simp; omega), List.append_nil]
  refine hK _ ?_ ?_ (by simp)
  · have := hH.step (A' := blk b T (cs.toList.take 0 ++ vs.toList ++ cs.toList.drop (0 + vs.size)).toArray) L1 L2 (w' := w.setRow b (cs.toList.take 0 ++ vs.toList ++ cs.toList.drop (0 + vs.size)).toArray) (by simp)
      (fun S ⟨hS, _⟩ => ⟨[b], ⟨rfl, setRow_heap w b cs _ T (0, 0) hb⟩, fun z hz => .inl (by rw [hS]; exact hz), fun z _ hz => setRow_other w b z _ (fun e => hz (by rw [hS, e]; simp))⟩)
    rw [e] at this
    have h2 : (cs.toList.take (0 + 0) ++ vs.toList ++ cs.toList.drop (0 + 0 + vs.toList.length)).toArray = vs := by simpa using e
    rw [h2]
    exact this
  · refine ⟨rfl, rfl, rfl, by simp, fun z hz => ?_⟩
    rw [setRow_other _ _ _ _ (by omega)]
theorem step_store_wanted (L1 L2 : List Asr) (hH : Has w B (L1 ++ blk b T cs :: L2)) (hw : Region.wanted o (yielded ops a.tmps) = true) (ty : TypeId) (x v : Operand) (ho : o.op = .store ty x v) (hx : a.eval x = .pointer (some ⟨b, 0, none⟩)) (vs : Array Value) (hv : a.eval v = .agg vs)
    (hi : (P.info? ty).map (·.size) = some vs.size) (hk : vs.size = cs.size) (h1 : ∀ u ∈ vs.toList, u.oneCell' = true)
    (hK : ∀ w', Has w' B (L1 ++ blk b T vs :: L2) → Below B w w' → w'.heap.size = w.heap.size → K (a.put o.dst undef) w') : if Region.wanted o (yielded ops a.tmps) = true then Oper.wp P o a w K Q else E := by
  rw [if_pos hw]
  exact step_store_all L1 L2 hH ty x v ho hx vs hv hi hk h1 hK
theorem step_load_at (ty : TypeId) (x : Operand) (ho : o.op = .load ty x) (ad : Addr) (hx : a.eval x = .pointer (some ad)) (d : TypeDesc) (l : List Value)
    (hc : ∀ j u, l[j]? = some u → w.cell? (ad.add j) = some u) (hu : P.underlying ty = some d) (hd : (match d with | .struct _ | .array _ _ => true | _ => false) = true) (hi : (P.info? ty).map (·.size) = some l.length)
    (h : K (a.put o.dst (.agg l.toArray)) w) : Oper.wp P o a w K Q := by
  unfold Oper.wp execOp
  simp only [ho, hx, Instr.loadAt, Instr.sureAddr, Sem.run_bind, Sem.run_pure, Result.andThen_ok, run_loadVar_at ad ty d l hc hu hd hi]
  exact h
theorem step_load_wanted (hw : Region.wanted o (yielded ops a.tmps) = true) (ty : TypeId) (x : Operand) (ho : o.op = .load ty x) (ad : Addr) (hx : a.eval x = .pointer (some ad)) (d : TypeDesc) (l : List Value)
    (hc : ∀ j u, l[j]? = some u → w.cell? (ad.add j) = some u) (hu : P.underlying ty = some d) (hd : (match d with | .struct _ | .array _ _ => true | _ => false) = true) (hi : (P.info? ty).map (·.size) = some l.length)
    (h : K (a.put o.dst (.agg l.toArray)) w) : if Region.wanted o (yielded ops a.tmps) = true then Oper.wp P o a w K Q else E := by
  rw [if_pos hw]
  exact step_load_at ty x ho ad hx d l hc hu hd hi h
end

/-- A whole struct is stored: the run of the very store, to a world by name. -/
theorem store_run {P : Program} {w : World} {B b : Nat} {T : TypeId} {cs : Array Value} (L1 L2 : List Asr) (hH : Has w B (L1 ++ blk b T cs :: L2)) (vs : List Value) (hk : vs.length = cs.size) (h1 : ∀ u ∈ vs, u.oneCell' = true) :
    ∃ w', Sem.run P (storeCells ⟨b, 0, none⟩ vs) w = .ok () w' ∧ Has w' B (L1 ++ blk b T vs.toArray :: L2) ∧ Below B w w' ∧ w'.heap.size = w.heap.size := by
  obtain ⟨hb, hB, hlt⟩ := hH.blk_at L1 L2
  have hst := run_storeCells_at (P := P) b 0 T vs 0 cs w hb (by simp [hk]) h1
  have e : (cs.toList.take 0 ++ vs ++ cs.toList.drop (0 + vs.length)).toArray = vs.toArray := by
    rw [List.take_zero, List.nil_append, List.drop_of_length_le (by simp; omega), List.append_nil]
  have e2 : (cs.toList.take (0 + 0) ++ vs ++ cs.toList.drop (0 + 0 + vs.length)).toArray = vs.toArray := by simpa using e
  rw [e2] at hst
  refine ⟨_, hst, ?_, ?_, by simp⟩
  · exact hH.step (A' := blk b T vs.toArray) L1 L2 (w' := w.setRow b vs.toArray) (by simp)
      (fun S ⟨hS, _⟩ => ⟨[b], ⟨rfl, setRow_heap w b cs _ T (0, 0) hb⟩, fun z hz => .inl (by rw [hS]; exact hz), fun z _ hz => setRow_other w b z _ (fun e => hz (by rw [hS, e]; simp))⟩)
  · refine ⟨rfl, rfl, rfl, by simp, fun z hz => ?_⟩
    rw [setRow_other _ _ _ _ (by omega)]

end Go.Proofs.Yteeapkndappnoaa
