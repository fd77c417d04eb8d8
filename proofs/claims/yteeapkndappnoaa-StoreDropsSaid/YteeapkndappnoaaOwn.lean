/-
  A small logic of what a call owns: 'Has w B L': from block B on, world w holds the things of the list L, each in blocks of its own.
  Contracts are stated over an arbitrary rest of the list, so each is proved once and serves wherever its object lies.
-/
import Derived.WalkKit
import Derived.WalkSpells
import Derived.WalkLawsBesides
import Derived.BigQuiet
import Derived.Deep.QuietTactic
import Derived.Maps.OwnOps
import Derived.Maps.OwnSet
import Derived.WalkSmall
import Derived.OpenShut
namespace Go.Proofs.Yteeapkndappnoaa
open Go.RowKit
set_option linter.unusedVariables false
set_option linter.unusedSimpArgs false

/-- A fact kept from the walk (which takes each open equation for a rewrite rule). -/
theorem hid {p : Prop} (h : p) : Hid p := h

/-- A callee that leaves the world alone, in a region that draws its order and only reads. -/
theorem quiet_same {P : Program} {f : FuncId} {args : Array Value} {w : World} {n : Nat} {v : Value}
    (h : Calls P f args (w.drewN n) fun e w' => e = .returned v ∧ w.drewN n = w') : Calls P f args (w.drewN n) fun e w'' => e = .returned v ∧ ∃ m, w'' = w.drewN m :=
  h.mono fun _ _ ⟨he, hm⟩ => ⟨he, n, hm.symm⟩

/-- A list without repeats, whose members are another's, is no longer. -/
theorem nodup_le {α : Type} [BEq α] [LawfulBEq α] : ∀ (l1 l2 : List α), l1.Nodup → (∀ x ∈ l1, x ∈ l2) → l1.length ≤ l2.length
  | [], _, _, _ => Nat.zero_le _
  | a :: l, l2, hn, hs => by
    obtain ⟨h1, h2⟩ := List.nodup_cons.1 hn
    have ha := hs a (by simp)
    have := nodup_le l (l2.erase a) h2 (fun x hx => (List.mem_erase_of_ne (fun e => h1 (by rw [← e]; exact hx))).2 (hs x (by simp [hx])))
    rw [List.length_erase_of_mem ha] at this
    have h3 : 0 < l2.length := List.length_pos_of_mem ha
    simp
    omega

/-- A thing in memory: where it holds (in which blocks), that it looks at these alone, and that they are there. -/
structure Asr where
  on : World → List Nat → Prop
  loc : ∀ w w' S, on w S → (∀ k ∈ S, w'.heap[k]? = w.heap[k]?) → on w' S
  lt : ∀ w S, on w S → ∀ k ∈ S, k < w.heap.size

/-- The things of a list, each in blocks of its own. -/
def sepL : List Asr → World → List Nat → Prop
  | [], _, S => S = []
  | A :: L, w, S => ∃ S1 S2, S = S1 ++ S2 ∧ A.on w S1 ∧ sepL L w S2 ∧ ∀ k ∈ S1, k ∉ S2

def Has (w : World) (B : Nat) (L : List Asr) : Prop := B ≤ w.heap.size ∧ ∃ S, sepL L w S ∧ ∀ k ∈ S, B ≤ k

theorem sepL_loc : ∀ (L : List Asr) (w w' : World) (S : List Nat), sepL L w S → (∀ k ∈ S, w'.heap[k]? = w.heap[k]?) → sepL L w' S
  | [], _, _, _, h, _ => h
  | A :: L, w, w', S, ⟨S1, S2, hS, hA, hL, hd⟩, hk => by
    subst hS
    exact ⟨S1, S2, rfl, A.loc w w' S1 hA (fun k h => hk k (by simp [h])), sepL_loc L w w' S2 hL (fun k h => hk k (by simp [h])), hd⟩

theorem sepL_lt : ∀ (L : List Asr) (w : World) (S : List Nat), sepL L w S → ∀ k ∈ S, k < w.heap.size
  | [], _, _, h => by intro k hk; rw [h] at hk; cases hk
  | A :: L, w, S, ⟨S1, S2, hS, hA, hL, _⟩ => by
    intro k hk
    subst hS
    rcases List.mem_append.1 hk with h | h
    · exact A.lt w S1 hA k h
    · exact sepL_lt L w S2 hL k h

theorem sepL_app : ∀ (L1 L2 : List Asr) (w : World) (S : List Nat), sepL (L1 ++ L2) w S ↔ ∃ S1 S2, S = S1 ++ S2 ∧ sepL L1 w S1 ∧ sepL L2 w S2 ∧ ∀ k ∈ S1, k ∉ S2
  | [], L2, w, S => by
    constructor
    · intro h; exact ⟨[], S, rfl, rfl, h, by simp⟩
    · rintro ⟨S1, S2, rfl, rfl, h, _⟩; exact h
  | A :: L1, L2, w, S => by
    constructor
    · rintro ⟨S1, S2, rfl, hA, hL, hd⟩
      obtain ⟨T1, T2, rfl, h1, h2, hd2⟩ := (sepL_app L1 L2 w S2).1 hL
      exact ⟨S1 ++ T1, T2, by simp, ⟨S1, T1, rfl, hA, h1, fun k hk h => hd k hk (by simp [h])⟩, h2, fun k hk h => by
        rcases List.mem_append.1 hk with h' | h'
        · exact hd k h' (by simp [h])
        · exact hd2 k h' h⟩
    · rintro ⟨S1, S2, rfl, ⟨U1, U2, rfl, hA, h1, hd⟩, h2, hd2⟩
      exact ⟨U1, U2 ++ S2, by simp, hA, (sepL_app L1 L2 w _).2 ⟨U2, S2, rfl, h1, h2, fun k hk => hd2 k (by simp [hk])⟩, fun k hk h => by
        rcases List.mem_append.1 h with h' | h'
        · exact hd k hk h'
        · exact hd2 k (by simp [hk]) h'⟩

/-- What one step does to the thing A of a list: the blocks of the others lie as they lay. -/
theorem Has.step {w w' : World} {B : Nat} {A A' : Asr} (L1 L2 : List Asr) (h : Has w B (L1 ++ A :: L2))
    (hs : w.heap.size ≤ w'.heap.size)
    (ht : ∀ S, A.on w S → ∃ S', A'.on w' S' ∧ (∀ k ∈ S', k ∈ S ∨ w.heap.size ≤ k) ∧ ∀ k, k < w.heap.size → k ∉ S → w'.heap[k]? = w.heap[k]?) :
    Has w' B (L1 ++ A' :: L2) := by
  obtain ⟨hB, S, hS, hb⟩ := h
  obtain ⟨S1, S2, rfl, h1, ⟨T1, T2, rfl, hA, h2, hd2⟩, hd⟩ := (sepL_app L1 (A :: L2) w S).1 hS
  obtain ⟨S', hA', hsub, hk⟩ := ht T1 hA
  have l1 := sepL_lt L1 w S1 h1
  have l2 := sepL_lt L2 w T2 h2
  refine ⟨Nat.le_trans hB hs, S1 ++ (S' ++ T2), (sepL_app L1 (A' :: L2) w' _).2 ⟨S1, S' ++ T2, rfl, ?_, ⟨S', T2, rfl, hA', ?_, ?_⟩, ?_⟩, ?_⟩
  · exact sepL_loc L1 w w' S1 h1 (fun k h => hk k (l1 k h) (fun h' => hd k h (by simp [h'])))
  · exact sepL_loc L2 w w' T2 h2 (fun k h => hk k (l2 k h) (fun h' => hd2 k h' h))
  · intro k hk' h
    rcases hsub k hk' with h' | h'
    · exact hd2 k h' h
    · have := l2 k h; omega
  · intro k hk' h
    rcases List.mem_append.1 h with h' | h'
    · rcases hsub k h' with h'' | h''
      · exact hd k hk' (by simp [h''])
      · have := l1 k hk'; omega
    · exact hd k hk' (by simp [h'])
  · intro k hk'
    rcases List.mem_append.1 hk' with h' | h'
    · exact hb k (by simp [h'])
    · rcases List.mem_append.1 h' with h'' | h''
      · rcases hsub k h'' with h3 | h3
        · exact hb k (by simp [h3])
        · omega
      · exact hb k (by simp [h''])

/-- Nothing of the list has been touched. -/
theorem Has.keep {w w' : World} {B : Nat} {L : List Asr} (h : Has w B L) (hs : w.heap.size ≤ w'.heap.size) (hk : ∀ k, k < w.heap.size → w'.heap[k]? = w.heap[k]?) : Has w' B L := by
  obtain ⟨hB, S, hS, hb⟩ := h
  exact ⟨Nat.le_trans hB hs, S, sepL_loc L w w' S hS (fun k h => hk k (sepL_lt L w S hS k h)), hb⟩

/-- A new thing in new blocks. -/
theorem Has.new {w w' : World} {B : Nat} {L : List Asr} (A : Asr) (h : Has w B L) (hs : w.heap.size ≤ w'.heap.size) (hk : ∀ k, k < w.heap.size → w'.heap[k]? = w.heap[k]?)
    (hA : ∃ S, A.on w' S ∧ ∀ k ∈ S, w.heap.size ≤ k) : Has w' B (A :: L) := by
  obtain ⟨hB, S, hS, hb⟩ := h
  obtain ⟨S', hA, hS'⟩ := hA
  refine ⟨Nat.le_trans hB hs, S' ++ S, ⟨S', S, rfl, hA, sepL_loc L w w' S hS (fun k h => hk k (sepL_lt L w S hS k h)), fun k h h' => ?_⟩, fun k h => ?_⟩
  · have := sepL_lt L w S hS k h'
    have := hS' k h
    omega
  · rcases List.mem_append.1 h with h' | h'
    · have := hS' k h'; omega
    · exact hb k h'

/-- Nothing that was there has turned. -/
theorem Has.below {w w' : World} {B : Nat} {L : List Asr} (h : Has w B L) (hb : Below w.heap.size w w') : Has w' B L := h.keep hb.size (fun k hk => hb.block k hk)
theorem Has.le {w : World} {B : Nat} {L : List Asr} (h : Has w B L) : B ≤ w.heap.size := h.1
theorem Has.nil {w : World} {B : Nat} (h : B ≤ w.heap.size) : Has w B [] := ⟨h, [], rfl, by simp⟩

theorem sepL_perm {w : World} {L L' : List Asr} (hp : L.Perm L') : ∀ S, sepL L w S → ∃ S', sepL L' w S' ∧ ∀ k, k ∈ S' ↔ k ∈ S := by
  induction hp with
  | nil => exact fun S h => ⟨S, h, fun _ => Iff.rfl⟩
  | cons A _ ih =>
    rintro S ⟨S1, S2, rfl, hA, hL, hd⟩
    obtain ⟨S', h', hk⟩ := ih S2 hL
    exact ⟨S1 ++ S', ⟨S1, S', rfl, hA, h', fun k h1 h2 => hd k h1 ((hk k).1 h2)⟩, fun k => by simp [hk]⟩
  | swap A A' L =>
    rintro S ⟨S1, S2, rfl, hA, ⟨T1, T2, rfl, hA', hL, hd2⟩, hd⟩
    exact ⟨T1 ++ (S1 ++ T2), ⟨T1, S1 ++ T2, rfl, hA', ⟨S1, T2, rfl, hA, hL, fun k h1 h2 => hd k h1 (by simp [h2])⟩, fun k h1 h2 => by
      rcases List.mem_append.1 h2 with h | h
      · exact hd k h (by simp [h1])
      · exact hd2 k h1 h⟩, fun k => by simp; grind⟩
  | trans _ _ ih1 ih2 =>
    intro S h
    obtain ⟨S1, h1, k1⟩ := ih1 S h
    obtain ⟨S2, h2, k2⟩ := ih2 S1 h1
    exact ⟨S2, h2, fun k => (k2 k).trans (k1 k)⟩

theorem Has.perm {w : World} {B : Nat} {L L' : List Asr} (h : Has w B L) (hp : L.Perm L') : Has w B L' := by
  obtain ⟨hB, S, hS, hb⟩ := h
  obtain ⟨S', h', hk⟩ := sepL_perm hp S hS
  exact ⟨hB, S', h', fun k h => hb k ((hk k).1 h)⟩

/-- The thing A of a list comes to the front. -/
theorem Has.front {w : World} {B : Nat} {A : Asr} (L1 L2 : List Asr) (h : Has w B (L1 ++ A :: L2)) : Has w B (A :: (L1 ++ L2)) := h.perm List.perm_middle
theorem Has.back {w : World} {B : Nat} {A : Asr} (L1 L2 : List Asr) (h : Has w B (A :: (L1 ++ L2))) : Has w B (L1 ++ A :: L2) := h.perm List.perm_middle.symm

theorem Has.cast {w : World} {B : Nat} {A A' : Asr} (L1 L2 : List Asr) (h : Has w B (L1 ++ A :: L2)) (hc : ∀ S, A.on w S → A'.on w S) : Has w B (L1 ++ A' :: L2) :=
  h.step L1 L2 (Nat.le_refl _) (fun S hA => ⟨S, hc S hA, fun _ h => .inl h, fun _ _ _ => rfl⟩)

theorem Has.drop {w : World} {B : Nat} {A : Asr} {L : List Asr} (h : Has w B (A :: L)) : Has w B L := by
  obtain ⟨hB, S, ⟨S1, S2, rfl, _, hL, _⟩, hb⟩ := h
  exact ⟨hB, S2, hL, fun k h => hb k (by simp [h])⟩

theorem Has.tl {w : World} {B : Nat} {L1 L2 : List Asr} (h : Has w B (L1 ++ L2)) : Has w B L2 := by
  induction L1 with
  | nil => exact h
  | cons A L ih => exact ih h.drop

theorem Has.hd {w : World} {B : Nat} {A : Asr} {L : List Asr} (h : Has w B (A :: L)) : ∃ S, A.on w S ∧ ∀ k ∈ S, B ≤ k := by
  obtain ⟨hB, S, ⟨S1, S2, rfl, hA, _, _⟩, hb⟩ := h
  exact ⟨S1, hA, fun k h => hb k (by simp [h])⟩

theorem Has.at {w : World} {B : Nat} {A : Asr} (L1 L2 : List Asr) (h : Has w B (L1 ++ A :: L2)) : ∃ S, A.on w S ∧ ∀ k ∈ S, B ≤ k := (h.front L1 L2).hd

/-! ### things -/
/-- Several things as one. -/
def Asr.all (L : List Asr) : Asr := ⟨sepL L, sepL_loc L, sepL_lt L⟩
/-- Some x's thing. -/
def Asr.ex {α : Type} (A : α → Asr) : Asr where
  on := fun w S => ∃ x, (A x).on w S
  loc := fun w w' S ⟨x, h⟩ hk => ⟨x, (A x).loc w w' S h hk⟩
  lt := fun w S ⟨x, h⟩ => (A x).lt w S h
/-- A thing of which p is so besides. -/
def Asr.and (p : Prop) (A : Asr) : Asr where
  on := fun w S => p ∧ A.on w S
  loc := fun w w' S ⟨hp, h⟩ hk => ⟨hp, A.loc w w' S h hk⟩
  lt := fun w S ⟨_, h⟩ => A.lt w S h

theorem Has.open_all {w : World} {B : Nat} {L X : List Asr} (h : Has w B (Asr.all L :: X)) : Has w B (L ++ X) := by
  obtain ⟨hB, S, ⟨S1, S2, rfl, hA, hL, hd⟩, hb⟩ := h
  exact ⟨hB, S1 ++ S2, (sepL_app L X w _).2 ⟨S1, S2, rfl, hA, hL, hd⟩, hb⟩
theorem Has.shut_all {w : World} {B : Nat} {X : List Asr} (L : List Asr) (h : Has w B (L ++ X)) : Has w B (Asr.all L :: X) := by
  obtain ⟨hB, S, hS, hb⟩ := h
  obtain ⟨S1, S2, rfl, hA, hL, hd⟩ := (sepL_app L X w _).1 hS
  exact ⟨hB, S1 ++ S2, ⟨S1, S2, rfl, hA, hL, hd⟩, hb⟩
theorem Has.open_ex {α : Type} {w : World} {B : Nat} {A : α → Asr} {X : List Asr} (h : Has w B (Asr.ex A :: X)) : ∃ x, Has w B (A x :: X) := by
  obtain ⟨hB, S, ⟨S1, S2, rfl, ⟨x, hA⟩, hL, hd⟩, hb⟩ := h
  exact ⟨x, hB, S1 ++ S2, ⟨S1, S2, rfl, hA, hL, hd⟩, hb⟩
theorem Has.shut_ex {α : Type} {w : World} {B : Nat} {A : α → Asr} {X : List Asr} (x : α) (h : Has w B (A x :: X)) : Has w B (Asr.ex A :: X) :=
  h.cast [] X (fun _ hA => ⟨x, hA⟩)
theorem Has.open_and {p : Prop} {w : World} {B : Nat} {A : Asr} {X : List Asr} (h : Has w B (Asr.and p A :: X)) : p ∧ Has w B (A :: X) := by
  obtain ⟨_, ⟨hp, _⟩, _⟩ := h.hd
  exact ⟨hp, h.cast [] X (fun _ hA => hA.2)⟩
theorem Has.shut_and {p : Prop} {w : World} {B : Nat} {A : Asr} {X : List Asr} (hp : p) (h : Has w B (A :: X)) : Has w B (Asr.and p A :: X) :=
  h.cast [] X (fun _ hA => ⟨hp, hA⟩)

/-- A block of cells, whole. -/
def blk (b : Nat) (T : TypeId) (cs : Array Value) : Asr where
  on := fun w S => S = [b] ∧ w.heap[b]? = some (.cells cs T (0, 0))
  loc := fun w w' S ⟨hS, h⟩ hk => ⟨hS, by subst hS; exact (hk b (by simp)).trans h⟩
  lt := fun w S ⟨hS, h⟩ => by
    intro k hk
    subst hS
    simp at hk
    subst hk
    exact (Array.getElem?_eq_some_iff.1 h).1

/-- A slice of the call's own: its elements' cells. -/
def row (T : TypeId) (size : Nat) (v : Value) (n : Nat) (xs : List Value) : Asr where
  on := fun w S => S = v.ownBlock.toList ∧ w.ownsRow 0 T size v n xs
  loc := fun w w' S ⟨hS, h⟩ hk => ⟨hS, by
    subst hS
    refine ⟨h.1, ?_⟩
    rcases h.2 with hn | ⟨g, cap, cur, rfl, hb, hgg, rest⟩
    · exact .inl hn
    · exact .inr ⟨g, cap, cur, rfl, hb, (hk g (by simp [Value.ownBlock])).trans hgg, rest⟩⟩
  lt := fun w S ⟨hS, h⟩ => by
    intro k hk
    subst hS
    cases hv : v.ownBlock with
    | none => simp [hv] at hk
    | some b => simp [hv] at hk; subst hk; exact (h.lt _ hv).2

/-- A map of ints to ints: what it holds, and of how many keys. -/
def IMap (P : Program) (T : TypeId) (w : World) (b : Nat) (g : Int → Option Int) (n : Nat) : Prop :=
  ∃ D : DataW Unit, w.ownsMap P T (plainElem P T) b n D ∧ Maps.size D = n ∧
    ∀ x : Int, (Lit.int .i64 x).wf = true → Maps.has D (.int .i64 x) = (g x).isSome ∧ D.atKey (.int .i64 x) (.lit (.int .i64 0)) = .lit (.int .i64 ((g x).getD 0))

def imap (P : Program) (T : TypeId) (b : Nat) (g : Int → Option Int) (n : Nat) : Asr where
  on := fun w S => S = [b] ∧ IMap P T w b g n
  loc := fun w w' S ⟨hS, D, h, hr⟩ hk => ⟨hS, D, by
    subst hS
    obtain ⟨es, clock, hb, hrest⟩ := h
    exact ⟨es, clock, (hk b (by simp)).trans hb, hrest⟩, hr⟩
  lt := fun w S ⟨hS, D, h, _⟩ => by
    intro k hk
    subst hS
    simp at hk
    subst hk
    exact h.lt

/-! ### blocks of cells -/
section
variable {w : World} {B b : Nat} {T : TypeId} {cs : Array Value}

theorem Has.blk_at (L1 L2 : List Asr) (h : Has w B (L1 ++ blk b T cs :: L2)) : w.heap[b]? = some (.cells cs T (0, 0)) ∧ B ≤ b ∧ b < w.heap.size := by
  obtain ⟨S, ⟨rfl, hb⟩, hk⟩ := h.at L1 L2
  exact ⟨hb, hk b (by simp), (Array.getElem?_eq_some_iff.1 hb).1⟩

theorem cell_of_blk {i : Nat} {v : Value} (h : w.heap[b]? = some (.cells cs T (0, 0))) (hi : cs[i]? = some v) : w.cell? ⟨b, i, none⟩ = some v := by
  simp [World.cell?, h, hi]
theorem frozen_of_blk {i : Nat} (h : w.heap[b]? = some (.cells cs T (0, 0))) : w.frozen? ⟨b, i, none⟩ = false := by
  simp [World.frozen?, h]

theorem Has.cell (L1 L2 : List Asr) (h : Has w B (L1 ++ blk b T cs :: L2)) (i : Nat) {v : Value} (hi : cs[i]? = some v) : w.cell? ⟨b, i, none⟩ = some v := cell_of_blk (h.blk_at L1 L2).1 hi
theorem Has.frozen (L1 L2 : List Asr) (h : Has w B (L1 ++ blk b T cs :: L2)) (i : Nat) : w.frozen? ⟨b, i, none⟩ = false := frozen_of_blk (h.blk_at L1 L2).1

theorem Has.set (L1 L2 : List Asr) (h : Has w B (L1 ++ blk b T cs :: L2)) (i : Nat) (v : Value) : Has (w.setCell ⟨b, i, none⟩ v) B (L1 ++ blk b T (cs.setIfInBounds i v) :: L2) :=
  h.step L1 L2 (by simp [World.setCell]) (fun S ⟨hS, hb⟩ => ⟨[b], ⟨rfl, heap_setCell_same w b i cs T v hb⟩, fun k hk => .inl (by rw [hS]; exact hk), fun k _ hk => heap_setCell_other _ _ _ _ (fun e => hk (by rw [hS, e]; simp))⟩)

theorem below_set {w0 : World} {B : Nat} (hb : Below B w0 w) (L1 L2 : List Asr) (h : Has w B (L1 ++ blk b T cs :: L2)) (i : Nat) (v : Value) : Below B w0 (w.setCell ⟨b, i, none⟩ v) :=
  hb.setCell (p := ⟨b, i, none⟩) (h.blk_at L1 L2).2.1 v

theorem Has.drewN {L : List Asr} (h : Has w B L) (n : Nat) : Has (w.drewN n) B L := h.keep (Nat.le_refl _) (fun _ _ => rfl)
theorem Has.drew {L : List Asr} (h : Has w B L) : Has w.drew B L := h.keep (Nat.le_refl _) (fun _ _ => rfl)

theorem Has.alloc {L : List Asr} (h : Has w B L) (o : Obj) : Has (w.alloc o) B L := h.keep (by simp) (fun k hk => Below.heap_alloc w o k hk)
theorem Has.newblk {L : List Asr} (h : Has w B L) (b : Nat) (T : TypeId) (cs : Array Value) (hb : w.heap.size = b) : Has (w.alloc (.cells cs T)) B (blk b T cs :: L) := hb ▸
  h.new _ (by simp) (fun k hk => Below.heap_alloc w _ k hk) ⟨[w.heap.size], ⟨rfl, heap_alloc_new w _⟩, by simp⟩
theorem below_new {w0 : World} (hb : Below B w0 w) {L : List Asr} (h : Has w B L) (o : Obj) : Below B w0 (w.alloc o) := hb.alloc h.le o
end

/-! ### a struct or an array, whole -/
section
variable {P : Program} {w : World} {B b : Nat} {T : TypeId} {cs : Array Value} {ops : Array Oper} {rest : List Oper} {o : Oper} {a : Act} {Q : Exit → Act → World → Prop}

theorem run_loadVar_at (ad : Addr) (ty : TypeId) (d : TypeDesc) (l : List Value) (hc : ∀ j u, l[j]? = some u → w.cell? (ad.add j) = some u)
    (hu : P.underlying ty = some d) (hd : (match d with | .struct _ | .array _ _ => true | _ => false) = true) (hi : (P.info? ty).map (·.size) = some l.length) : (loadVar ty ad).run P w = .ok (.agg l.toArray) w := by
  have hl : (loadCells ad l.length).run P w = .ok l.toArray w := run_loadCells_list (P := P) w ad l hc
  cases hq : P.info? ty with
  | none => simp [hq] at hi
  | some i =>
    have hs : i.size = l.length := by simpa [hq] using hi
    have hagg : (isAgg ty).run P w = .ok true w := by
      unfold isAgg
      cases d <;> simp_all [run_underlying hu]
    simp [loadVar, hagg, sizeOf, typeInfo, hq, hs, hl]

/-- A struct or an array is loaded, out of cells that are known. -/
theorem wpList_load_at (ty : TypeId) (x : Operand) (ho : o.op = .load ty x) (hgd : Region.wanted o (yielded ops a.tmps) = true) (ad : Addr) (hx : a.eval x = .pointer (some ad)) (d : TypeDesc) (l : List Value)
    (hc : ∀ j u, l[j]? = some u → w.cell? (ad.add j) = some u) (hu : P.underlying ty = some d) (hd : (match d with | .struct _ | .array _ _ => true | _ => false) = true) (hi : (P.info? ty).map (·.size) = some l.length)
    (h : wpList P ops Q rest (a.put o.dst (.agg l.toArray)) w) : wpList P ops Q (o :: rest) a w := by
  refine BigFrame.wpList_want hgd fun K hK => ?_
  unfold Oper.wp execOp
  simp only [ho, hx, Instr.loadAt, Instr.sureAddr, Sem.run_bind, Sem.run_pure, Result.andThen_ok, run_loadVar_at ad ty d l hc hu hd hi]
  exact hK _ _ h

/-- .. out of a block of the call's own. -/
theorem wpList_load_blk (L1 L2 : List Asr) (hH : Has w B (L1 ++ blk b T cs :: L2)) (ty : TypeId) (x : Operand) (ho : o.op = .load ty x) (hgd : Region.wanted o (yielded ops a.tmps) = true) (hx : a.eval x = .pointer (some ⟨b, 0, none⟩)) (d : TypeDesc)
    (hu : P.underlying ty = some d) (hd : (match d with | .struct _ | .array _ _ => true | _ => false) = true) (hi : (P.info? ty).map (·.size) = some cs.size)
    (h : wpList P ops Q rest (a.put o.dst (.agg cs)) w) : wpList P ops Q (o :: rest) a w :=
  BigFrame.wpList_want hgd fun _ hK => wp_load_row ty x ho b hx T cs (0, 0) d (hH.blk_at L1 L2).1 hu hd hi (hK _ _ h)

/-- A struct or an array is stored into a block of the call's own, from cell k on. -/
theorem wpList_store_blk (L1 L2 : List Asr) (hH : Has w B (L1 ++ blk b T cs :: L2)) (ty : TypeId) (x v : Operand) (ho : o.op = .store ty x v) (hgd : Region.wanted o (yielded ops a.tmps) = true) (k : Nat) (hx : a.eval x = .pointer (some ⟨b, k, none⟩)) (vs : Array Value) (hv : a.eval v = .agg vs)
    (hi : (P.info? ty).map (·.size) = some vs.size) (hk : k + vs.size ≤ cs.size) (h1 : ∀ u ∈ vs.toList, u.oneCell' = true)
    (hK : ∀ w', Has w' B (L1 ++ blk b T (cs.toList.take k ++ vs.toList ++ cs.toList.drop (k + vs.size)).toArray :: L2) → Below B w w' → w'.heap.size = w.heap.size → wpList P ops Q rest (a.put o.dst undef) w') : wpList P ops Q (o :: rest) a w := by
  obtain ⟨hb, hB, hlt⟩ := hH.blk_at L1 L2
  refine BigFrame.wpList_want hgd fun K hK' => ?_
  have hst := run_storeCells_at (P := P) b k T vs.toList 0 cs w hb (by simpa using hk) h1
  have hsz : (sizeOf ty).run P w = .ok vs.size w := by
    cases hq : P.info? ty with
    | none => simp [hq] at hi
    | some i => simp [hq] at hi; simp [sizeOf, typeInfo, hq, hi]
  unfold Oper.wp execOp
  simp only [ho, hx, hv, Instr.storeAt, Instr.sureAddr, storeVar, Value.cells, Sem.run_bind, Sem.run_pure, Result.andThen_ok, hsz, ne_eq, not_true_eq_false, if_false, hst]
  refine hK' _ _ (hK _ ?_ ?_ (by simp))
  · have := hH.step (A' := blk b T (cs.toList.take k ++ vs.toList ++ cs.toList.drop (k + vs.size)).toArray) L1 L2 (w' := w.setRow b (cs.toList.take k ++ vs.toList ++ cs.toList.drop (k + vs.size)).toArray) (by simp)
      (fun S ⟨hS, _⟩ => ⟨[b], ⟨rfl, setRow_heap w b cs _ T (0, 0) hb⟩, fun z hz => .inl (by rw [hS]; exact hz), fun z _ hz => setRow_other w b z _ (fun e => hz (by rw [hS, e]; simp))⟩)
    simpa using this
  · refine ⟨rfl, rfl, rfl, by simp, fun z hz => ?_⟩
    rw [setRow_other _ _ _ _ (by omega)]
/-- A block's whole content is another one. -/
theorem wpList_store_all (L1 L2 : List Asr) (hH : Has w B (L1 ++ blk b T cs :: L2)) (ty : TypeId) (x v : Operand) (ho : o.op = .store ty x v) (hgd : Region.wanted o (yielded ops a.tmps) = true) (hx : a.eval x = .pointer (some ⟨b, 0, none⟩)) (vs : Array Value) (hv : a.eval v = .agg vs)
    (hi : (P.info? ty).map (·.size) = some vs.size) (hk : vs.size = cs.size) (h1 : ∀ u ∈ vs.toList, u.oneCell' = true)
    (hK : ∀ w', Has w' B (L1 ++ blk b T vs :: L2) → Below B w w' → w'.heap.size = w.heap.size → wpList P ops Q rest (a.put o.dst undef) w') : wpList P ops Q (o :: rest) a w := by
  refine wpList_store_blk L1 L2 hH ty x v ho hgd 0 hx vs hv hi (by omega) h1 (fun w' hH' => ?_)
  have e : (cs.toList.take 0 ++ vs.toList ++ cs.toList.drop (0 + vs.size)).toArray = vs := by
    rw [List.take_zero, List.nil_append, List.drop_of_length_le (by simp; omega), List.append_nil]
  rw [e] at hH'
  exact hK w' hH'
end

/-! ### maps of ints -/
section
variable {P : Program} {T : TypeId} {w : World} {B b n : Nat} {g : Int → Option Int}

theorem Has.newmap {L : List Asr} (h : Has w B L) (b : Nat) (P : Program) (T : TypeId) (hb : w.heap.size = b) : Has (w.alloc (.map #[] 0)) B (imap P T b (fun _ => none) 0 :: L) := hb ▸
  h.new _ (by simp) (fun k hk => Below.heap_alloc w _ k hk) ⟨[w.heap.size], ⟨rfl, .map [], World.ownsMap_made w P T _, rfl, fun x _ => ⟨rfl, rfl⟩⟩, by simp⟩

theorem Has.map_at (L1 L2 : List Asr) (h : Has w B (L1 ++ imap P T b g n :: L2)) : IMap P T w b g n ∧ B ≤ b ∧ b < w.heap.size := by
  obtain ⟨S, ⟨rfl, hb⟩, hk⟩ := h.at L1 L2
  exact ⟨hb, hk b (by simp), by obtain ⟨D, hD, _⟩ := hb; exact hD.lt⟩

def upd (g : Int → Option Int) (x : Int) (y : Option Int) : Int → Option Int := fun z => if z = x then y else g z
/-- How many keys there are behind a store, behind a delete. (Plain definitions, so that a walk does not part on them.) -/
def more (g : Int → Option Int) (x : Int) (n : Nat) : Nat := if (g x).isSome then n else n + 1
def less (g : Int → Option Int) (x : Int) (n : Nat) : Nat := if (g x).isSome then n - 1 else n
theorem upd_same (g : Int → Option Int) (x : Int) (y : Option Int) : upd g x y x = y := by simp [upd]
theorem upd_other (g : Int → Option Int) {x z : Int} (y : Option Int) (h : z ≠ x) : upd g x y z = g z := by simp [upd, h]

/-- A bound on how many entries a block has, made exact. -/
theorem ownsMap_exact {H : Type} {R : Value → Option (DataW H × List MemPlace)} {D : DataW H} {N : Nat} (h : w.ownsMap P T R b N D) : w.ownsMap P T R b (Maps.size D) D := by
  obtain ⟨es, clock, hb, F, hs, rfl⟩ := h
  exact ⟨es, clock, hb, F, by simp [Maps.size, length_sorted], rfl⟩

theorem IMap.put {w' : World} {D : DataW Unit} (hT : P.underlying T = some (.int .i64)) (hD : w.ownsMap P T (plainElem P T) b n D) (hs : Maps.size D = n)
    (hr : ∀ x : Int, (Lit.int .i64 x).wf = true → Maps.has D (.int .i64 x) = (g x).isSome ∧ D.atKey (.int .i64 x) (.lit (.int .i64 0)) = .lit (.int .i64 ((g x).getD 0)))
    (x y : Int) (hx : (Lit.int .i64 x).wf = true) (h : w'.ownsMap P T (plainElem P T) b (n + 1) (D.put (.int .i64 x) (.lit (.int .i64 y)))) :
    IMap P T w' b (upd g x (some y)) (more g x n) := by
  unfold more
  have K : Maps.Keyed P T := Maps.int_keyed hT
  have hk : WideAt.IsKeyLit (.int .i64 x) := K.key (Maps.keyOf_int_mk hT hx)
  have tidy : Maps.Tidy D := hD.tidy K
  have e1 := Maps.size_put (k := .int .i64 x) tidy (.lit (.int .i64 y))
  rw [(hr x hx).1, hs] at e1
  refine ⟨_, by rw [← e1]; exact ownsMap_exact h, e1, fun z hz => ?_⟩
  by_cases e : z = x
  · subst e
    rw [upd_same, Maps.has_put_same tidy.isMap hk, Maps.atKey_put_same tidy.isMap hk]
    exact ⟨rfl, rfl⟩
  · have hne : (Lit.int .i64 z) ≠ .int .i64 x := fun h' => e (by injection h')
    rw [upd_other g _ e, Maps.has_put_other hne, Maps.atKey_put_other hne]
    exact hr z hz

theorem IMap.del {w' : World} {D : DataW Unit} (hT : P.underlying T = some (.int .i64)) (hD : w.ownsMap P T (plainElem P T) b n D) (hs : Maps.size D = n)
    (hr : ∀ x : Int, (Lit.int .i64 x).wf = true → Maps.has D (.int .i64 x) = (g x).isSome ∧ D.atKey (.int .i64 x) (.lit (.int .i64 0)) = .lit (.int .i64 ((g x).getD 0)))
    (x : Int) (hx : (Lit.int .i64 x).wf = true) (h : w'.ownsMap P T (plainElem P T) b n (D.del (.int .i64 x))) :
    IMap P T w' b (upd g x none) (less g x n) := by
  unfold less
  have K : Maps.Keyed P T := Maps.int_keyed hT
  have tidy : Maps.Tidy D := hD.tidy K
  have e1 := Maps.size_del (k := .int .i64 x) tidy
  rw [(hr x hx).1, hs] at e1
  have e2 : Maps.size (D.del (.int .i64 x)) = if (g x).isSome then n - 1 else n := by split at e1 <;> simp_all <;> omega
  refine ⟨_, by rw [← e2]; exact ownsMap_exact h, e2, fun z hz => ?_⟩
  by_cases e : z = x
  · subst e
    rw [upd_same, Maps.has_del_same, Maps.atKey_del_same]
    exact ⟨rfl, rfl⟩
  · have hne : (Lit.int .i64 z) ≠ .int .i64 x := fun h' => e (by injection h')
    rw [upd_other g _ e, Maps.has_del_other hne, Maps.atKey_del_other hne]
    exact hr z hz

variable {ops : Array Oper} {rest : List Oper} {o : Oper} {a : Act} {Q : Exit → Act → World → Prop}

theorem wpList_map_get (L1 L2 : List Asr) (hH : Has w B (L1 ++ imap P T b g n :: L2)) (hg : o.guard = none) (m x : Operand) (t : TypeId) (hop : o.op = Op.lookup t m x false)
    (ht : P.underlying t = some (.map T T)) (hT : P.underlying T = some (.int .i64)) (hz : (zeroValue T).run P w = .ok (.int .i64 0) w)
    (hm : a.eval m = .map (some b)) (key : Int) (hx : a.eval x = .int .i64 key) (hw : (Lit.int .i64 key).wf = true)
    (hK : wpList P ops Q rest (a.put o.dst (.int .i64 ((g key).getD 0))) w) : wpList P ops Q (o :: rest) a w := by
  obtain ⟨⟨D, hD, hs, hr⟩, _⟩ := hH.map_at L1 L2
  refine wpList_lookup_own_int w hg m x t hop T T .i64 (Maps.int_keyed hT) ht hT hz b n D hm hD _ _ hx (Maps.keyOf_int_mk hT hw) (fun c hc _ => ?_)
  rw [(hr key hw).2] at hc
  injection hc with hc
  injection hc with _ hc
  rw [← hc]
  exact hK

theorem wpList_map_get_ok (L1 L2 : List Asr) (hH : Has w B (L1 ++ imap P T b g n :: L2)) (hg : o.guard = none) (m x : Operand) (t : TypeId) (hop : o.op = Op.lookup t m x true)
    (ht : P.underlying t = some (.map T T)) (hT : P.underlying T = some (.int .i64)) (hz : (zeroValue T).run P w = .ok (.int .i64 0) w)
    (hm : a.eval m = .map (some b)) (key : Int) (hx : a.eval x = .int .i64 key) (hw : (Lit.int .i64 key).wf = true)
    (hK : wpList P ops Q rest (a.put o.dst (.tuple #[.int .i64 ((g key).getD 0), .bool (g key).isSome])) w) : wpList P ops Q (o :: rest) a w := by
  obtain ⟨⟨D, hD, hs, hr⟩, _⟩ := hH.map_at L1 L2
  refine wpList_lookup_own_ok_int w hg m x t hop T T .i64 (Maps.int_keyed hT) ht hT hz b n D hm hD _ _ hx (Maps.keyOf_int_mk hT hw) (fun c hc _ => ?_)
  rw [(hr key hw).2] at hc
  injection hc with hc
  injection hc with _ hc
  rw [← hc, (hr key hw).1]
  exact hK

theorem wpList_map_put (L1 L2 : List Asr) (hH : Has w B (L1 ++ imap P T b g n :: L2)) (hg : o.guard = none) (m x v : Operand) (t : TypeId) (hop : o.op = Op.mapUpdate t m x v)
    (ht : P.underlying t = some (.map T T)) (hT : P.underlying T = some (.int .i64))
    (hm : a.eval m = .map (some b)) (key val : Int) (hx : a.eval x = .int .i64 key) (hv : a.eval v = .int .i64 val) (hw : (Lit.int .i64 key).wf = true) (hwv : (Lit.int .i64 val).wf = true) (hn : n < maxLen)
    (hK : ∀ w', Has w' B (L1 ++ imap P T b (upd g key (some val)) (more g key n) :: L2) → Below B w w' → wpList P ops Q rest (a.put o.dst undef) w') : wpList P ops Q (o :: rest) a w := by
  obtain ⟨⟨D, hD, hs, hr⟩, hB, _⟩ := hH.map_at L1 L2
  refine wpList_mapUpdate_own w hg m x v t hop T T (Maps.int_keyed hT) ht _ b n D hm hD hn _ _ _ hx hv (Maps.keyOf_int_mk hT hw) _ [] (plainElem_int hT hwv) (fun w' h' hgr => hK w' ?_ ?_)
  · refine hH.step L1 L2 hgr.size (fun S ⟨hS, _⟩ => ⟨[b], ⟨rfl, IMap.put hT hD hs hr key val hw h'⟩, fun k hk => .inl (by rw [hS]; exact hk), fun k hk hk' => hgr.block k hk (fun e => hk' (by rw [hS]; injection e with e; simp [e]))⟩)
  · exact (Below.refl _ _).grown hgr hH.le (fun k hk => by cases hk; exact hB)

theorem wpList_map_del (L1 L2 : List Asr) (hH : Has w B (L1 ++ imap P T b g n :: L2)) (hg : o.guard = none) (m x : Operand) (t : TypeId) (hop : o.op = Op.call { callee := Callee.builtin Builtin.delete, args := #[m, x], argTypes := #[t, T] })
    (ht : P.underlying t = some (.map T T)) (hT : P.underlying T = some (.int .i64))
    (hm : a.eval m = .map (some b)) (key : Int) (hx : a.eval x = .int .i64 key) (hw : (Lit.int .i64 key).wf = true)
    (hK : ∀ w', Has w' B (L1 ++ imap P T b (upd g key none) (less g key n) :: L2) → Below B w w' → wpList P ops Q rest (a.put o.dst (.tuple #[])) w') : wpList P ops Q (o :: rest) a w := by
  obtain ⟨⟨D, hD, hs, hr⟩, hB, _⟩ := hH.map_at L1 L2
  refine wpList_delete_own w hg m x t T hop T (Maps.int_keyed hT) ht _ b n D hm hD _ _ hx (Maps.keyOf_int_mk hT hw) (fun w' h' htn => ?_)
  have hgr := World.mapTurned.grown htn
  refine hK w' ?_ ?_
  · refine hH.step L1 L2 hgr.size (fun S ⟨hS, _⟩ => ⟨[b], ⟨rfl, IMap.del hT hD hs hr key hw h'⟩, fun k hk => .inl (by rw [hS]; exact hk), fun k hk hk' => hgr.block k hk (fun e => hk' (by rw [hS]; injection e with e; simp [e]))⟩)
  · exact (Below.refl _ _).grown hgr hH.le (fun k hk => by cases hk; exact hB)

theorem wpList_map_len (L1 L2 : List Asr) (hH : Has w B (L1 ++ imap P T b g n :: L2)) (hg : o.guard = none) (m : Operand) (t : TypeId) (hop : o.op = Op.call { callee := Callee.builtin Builtin.len, args := #[m], argTypes := #[t] })
    (ht : P.underlying t = some (.map T T)) (hm : a.eval m = .map (some b))
    (hK : wpList P ops Q rest (a.put o.dst (.int .i64 n)) w) : wpList P ops Q (o :: rest) a w := by
  obtain ⟨⟨D, hD, hs, hr⟩, _⟩ := hH.map_at L1 L2
  refine wpList_len_own w hg m t hop T T ht _ b n D hm hD ?_
  rw [hs]
  exact hK
end

/-! ### slices of the call's own -/
section
variable {P : Program} {T : TypeId} {w : World} {B n size : Nat} {v : Value} {xs : List Value}

theorem Has.nilrow {L : List Asr} (h : Has w B L) (T : TypeId) (size : Nat) : Has w B (row T size (.slice none 0 0) 0 [] :: L) :=
  h.new _ (Nat.le_refl _) (fun _ _ => rfl) ⟨[], ⟨rfl, World.ownsRow_nil _ _ _ _⟩, by simp⟩

theorem Has.row_at (L1 L2 : List Asr) (h : Has w B (L1 ++ row T size v n xs :: L2)) : w.ownsRow 0 T size v n xs ∧ ∀ g, v.ownBlock = some g → B ≤ g ∧ g < w.heap.size := by
  obtain ⟨S, ⟨rfl, hr⟩, hk⟩ := h.at L1 L2
  exact ⟨hr, fun g hg => ⟨hk g (by simp [hg]), (hr.lt g hg).2⟩⟩

theorem Has.row_len (L1 L2 : List Asr) (h : Has w B (L1 ++ row T size v n xs :: L2)) : xs.length = n * size := (h.row_at L1 L2).1.1

/-- Its value: nil, or a slice from the head of a block on. -/
theorem Has.row_shape (L1 L2 : List Asr) (h : Has w B (L1 ++ row T size v n xs :: L2)) : (v = .slice none 0 0 ∧ n = 0) ∨ ∃ g cap, v = .slice (some ⟨g, 0, none⟩) n cap ∧ n ≤ cap ∧ cap ≤ maxLen ∧ B ≤ g ∧ g < w.heap.size := by
  obtain ⟨hr, hg⟩ := h.row_at L1 L2
  rcases hr.2 with h1 | ⟨g, cap, cur, rfl, _, _, h2, h3, _⟩
  · exact .inl h1
  · exact .inr ⟨g, cap, rfl, h2, h3, hg g rfl⟩

/-- .. in one form. -/
theorem Has.row_form (L1 L2 : List Asr) (h : Has w B (L1 ++ row T size v n xs :: L2)) : ∃ ao cap, v = .slice ao n cap ∧ n ≤ cap ∧ cap ≤ maxLen ∧ (0 < n → ∃ g, ao = some ⟨g, 0, none⟩) := by
  rcases h.row_shape L1 L2 with ⟨rfl, rfl⟩ | ⟨g, cap, rfl, h1, h2, _, _⟩
  · exact ⟨none, 0, rfl, Nat.le_refl _, Nat.zero_le _, fun h => absurd h (Nat.lt_irrefl _)⟩
  · exact ⟨_, cap, rfl, h1, h2, fun _ => ⟨g, rfl⟩⟩

theorem Has.row_cell {g cap : Nat} (L1 L2 : List Asr) (h : Has w B (L1 ++ row T size (.slice (some ⟨g, 0, none⟩) n cap) n xs :: L2)) (j : Nat) {u : Value} (hj : xs[j]? = some u) : w.cell? ⟨g, j, none⟩ = some u := by
  have := (h.row_at L1 L2).1.cells (g := g) rfl j u hj
  have e : (⟨g, 0, none⟩ : Addr).add j = ⟨g, j, none⟩ := by unfold Addr.add; split <;> simp_all
  rwa [e] at this

theorem Has.row_frozen {g cap : Nat} (L1 L2 : List Asr) (h : Has w B (L1 ++ row T size (.slice (some ⟨g, 0, none⟩) n cap) n xs :: L2)) (j : Nat) : w.frozen? ⟨g, j, none⟩ = false := by
  rcases (h.row_at L1 L2).1.2 with ⟨hv, _⟩ | ⟨g', cap', cur, hv, _, hg, _⟩
  · cases hv
  · cases hv
    simp [World.frozen?, hg]

/-- A shorter one over the same block. -/
theorem Has.row_cut {g cap k : Nat} (L1 L2 : List Asr) (h : Has w B (L1 ++ row T size (.slice (some ⟨g, 0, none⟩) n cap) n xs :: L2)) (hk : k ≤ n) : Has w B (L1 ++ row T size (.slice (some ⟨g, 0, none⟩) k cap) k (xs.take (k * size)) :: L2) := by
  refine h.cast L1 L2 (fun S ⟨hS, hr⟩ => ⟨hS, ?_⟩)
  have hl := hr.1
  have hm : k * size ≤ n * size := Nat.mul_le_mul_right _ hk
  rcases hr.2 with ⟨hv, _⟩ | ⟨g', cap', cur, hv, hb, hg, h1, h2, h3, h4⟩
  · cases hv
  · cases hv
    exact ⟨by simp; omega, .inr ⟨g, cap, cur, rfl, hb, hg, Nat.le_trans hk h1, h2, h3, by rw [← h4, List.take_take, Nat.min_eq_left hm]⟩⟩

theorem Has.row_cut1 {g cap k : Nat} (L1 L2 : List Asr) (h : Has w B (L1 ++ row T 1 (.slice (some ⟨g, 0, none⟩) n cap) n xs :: L2)) (hk : k ≤ n) : Has w B (L1 ++ row T 1 (.slice (some ⟨g, 0, none⟩) k cap) k (xs.take k) :: L2) := by
  have := Has.row_cut L1 L2 h hk
  rwa [Nat.mul_one] at this

/-- An element's cell is another one. -/
theorem Has.row_set {g cap : Nat} (L1 L2 : List Asr) (h : Has w B (L1 ++ row T size (.slice (some ⟨g, 0, none⟩) n cap) n xs :: L2)) (j : Nat) (hj : j < xs.length) (u : Value) :
    Has (w.setCell ⟨g, j, none⟩ u) B (L1 ++ row T size (.slice (some ⟨g, 0, none⟩) n cap) n (xs.set j u) :: L2) := by
  refine h.step L1 L2 (by simp [World.setCell]) (fun S ⟨hS, hr⟩ => ⟨S, ⟨hS, ?_⟩, fun k hk => .inl hk, fun k _ hk => heap_setCell_other _ _ _ _ (fun e => hk (by rw [hS, e]; simp [Value.ownBlock]))⟩)
  rcases hr.2 with ⟨hv, _⟩ | ⟨g', cap', cur, hv, hb, hg, h1, h2, h3, h4⟩
  · cases hv
  · cases hv
    have hl := hr.1
    refine ⟨by simp [hl], .inr ⟨g, cap, cur.setIfInBounds j u, rfl, hb, heap_setCell_same w g j cur T u hg, h1, h2, by simp [h3], ?_⟩⟩
    rw [Array.toList_setIfInBounds, ← h4, List.take_set]

variable {ops : Array Oper} {rest : List Oper} {o : Oper} {a : Act} {Q : Exit → Act → World → Prop}

theorem wpList_append_row (L1 L2 : List Asr) (hH : Has w B (L1 ++ row T size v n xs :: L2)) (hgd : o.guard = none) (s x : Operand) (t : TypeId)
    (ho : o.op = .call { callee := .builtin .append, args := #[s, x], argTypes := #[t, t] })
    (i : TypeInfo) (z : Value) (bytes : Nat) (ht : P.underlying t = some (.slice T)) (hi : P.info? T = some i) (hz : i.zero = some z)
    (hsize : i.size = size) (hby : i.bytes = bytes) (hzs : z.cells.size = size) (hsz : 0 < size) (hs : a.eval s = v)
    (ad : Addr) (m c : Nat) (news : List Value) (hx : a.eval x = .slice (some ad) m c) (hl : news.length = m * size) (hnews : ∀ j u, news[j]? = some u → w.cell? (ad.add j) = some u) (h1 : ∀ u ∈ news, u.oneCell' = true)
    (hm : 0 < m) (h63 : n + m ≤ maxLen) (hbytes : (n + m) * bytes ≤ 140737488355328)
    (hK : ∀ g cap w', Has w' B (L1 ++ row T size (.slice (some ⟨g, 0, none⟩) (n + m) cap) (n + m) (xs ++ news) :: L2) → Below B w w' → wpList P ops Q rest (a.put o.dst (.slice (some ⟨g, 0, none⟩) (n + m) cap)) w') : wpList P ops Q (o :: rest) a w := by
  obtain ⟨hr, hg⟩ := hH.row_at L1 L2
  have fresh : ∀ v' w', w'.ownsRow w.heap.size T size v' (n + m) (xs ++ news) → w.grownBy w' none → wpList P ops Q rest (a.put o.dst v') w' := by
    intro v' w' hown hgr
    rcases hown.2 with ⟨_, h⟩ | ⟨g, cap, cur, rfl, hb, hgg, hrest⟩
    · omega
    · refine hK g cap w' ?_ ((Below.refl _ _).grown hgr hH.le (fun k hk => by cases hk))
      exact hH.step L1 L2 hgr.size (fun S _ => ⟨[g], ⟨by simp [Value.ownBlock], hown.1, .inr ⟨g, cap, cur, rfl, Nat.zero_le _, hgg, hrest⟩⟩, fun k hk => by
        simp at hk
        subst hk
        exact .inr hb, fun k hk _ => hgr.block k hk (by simp)⟩)
  rcases hr.2 with ⟨rfl, rfl⟩ | ⟨g, cap, cur, rfl, _, hgg, h2, h3, h4, h5⟩
  · have hx0 : xs = [] := List.eq_nil_of_length_eq_zero (by simpa using hr.1)
    subst hx0
    exact wpList_append_grows w hgd s x t ho T i z size bytes ht hi hz hsize hby hzs hsz none 0 0 [] hs (fun _ => ⟨rfl, rfl⟩) (by simp) (by intro b hb; cases hb) ad m c news hx hl hnews h1 (by omega) h63 hbytes fresh
  · by_cases hc : n + m ≤ cap
    · refine wpList_append_fits w hgd s x t ho 0 T i size ht hi hsize g n cap xs hs hr ad m c news hx hl hnews h1 hc (fun w' hown hgr => hK g cap w' ?_ ?_)
      · exact hH.step L1 L2 hgr.size (fun S ⟨hS, _⟩ => ⟨[g], ⟨by simp [Value.ownBlock], hown⟩, fun k hk => .inl (by rw [hS]; simpa [Value.ownBlock] using hk), fun k hk hk' => hgr.block k hk (fun e => hk' (by rw [hS]; injection e with e; simp [Value.ownBlock, e]))⟩)
      · exact (Below.refl _ _).grown hgr hH.le (fun k hk => by cases hk; exact (hg g rfl).1)
    · exact wpList_append_grows w hgd s x t ho T i z size bytes ht hi hz hsize hby hzs hsz (some ⟨g, 0, none⟩) n cap xs hs (by intro h; cases h) hr.1 (fun b hb j u hu => by cases hb; exact hr.cells (g := g) rfl j u hu) ad m c news hx hl hnews h1 (by omega) h63 hbytes fresh
/-- 'append(dst, src...)': dst not nil, src whatever. -/
theorem wpList_append_rows {g0 cap0 : Nat} (L1 L2 : List Asr) (hH : Has w B (L1 ++ row T size (.slice (some ⟨g0, 0, none⟩) n cap0) n xs :: L2)) (hgd : o.guard = none) (s x : Operand) (t : TypeId)
    (ho : o.op = .call { callee := .builtin .append, args := #[s, x], argTypes := #[t, t] })
    (i : TypeInfo) (z : Value) (bytes : Nat) (ht : P.underlying t = some (.slice T)) (hi : P.info? T = some i) (hz : i.zero = some z)
    (hsize : i.size = size) (hby : i.bytes = bytes) (hzs : z.cells.size = size) (hsz : 0 < size) (hs : a.eval s = .slice (some ⟨g0, 0, none⟩) n cap0)
    (ao : Option Addr) (m c : Nat) (news : List Value) (hx : a.eval x = .slice ao m c) (hnone : ao = none → m = 0 ∧ c = 0) (hl : news.length = m * size) (hnews : ∀ ad, ao = some ad → ∀ j u, news[j]? = some u → w.cell? (ad.add j) = some u) (h1 : ∀ u ∈ news, u.oneCell' = true)
    (h63 : n + m ≤ maxLen) (hbytes : (n + m) * bytes ≤ 140737488355328)
    (hK : ∀ g cap w', Has w' B (L1 ++ row T size (.slice (some ⟨g, 0, none⟩) (n + m) cap) (n + m) (xs ++ news) :: L2) → Below B w w' → wpList P ops Q rest (a.put o.dst (.slice (some ⟨g, 0, none⟩) (n + m) cap)) w') : wpList P ops Q (o :: rest) a w := by
  by_cases hm : 0 < m
  · cases ao with
    | none => have := (hnone rfl).1; omega
    | some ad => exact wpList_append_row L1 L2 hH hgd s x t ho i z bytes ht hi hz hsize hby hzs hsz hs ad m c news hx hl (hnews ad rfl) h1 hm h63 hbytes hK
  · obtain rfl : m = 0 := by omega
    obtain ⟨hr, hg⟩ := hH.row_at L1 L2
    rcases hr.2 with ⟨hv, _⟩ | ⟨g, cap, cur, hv, _, hgg, h2, h3, h4, h5⟩
    · cases hv
    · cases hv
      refine wpList_append_fits_any w hgd s x t ho 0 T i size ht hi hsize g0 n cap0 xs hs hr ao 0 c news hx hl hnone hnews h1 (by omega) (fun w' hown hgr => hK g0 cap0 w' ?_ ?_)
      · exact hH.step L1 L2 hgr.size (fun S ⟨hS, _⟩ => ⟨[g0], ⟨by simp [Value.ownBlock], hown⟩, fun k hk => .inl (by rw [hS]; simpa [Value.ownBlock] using hk), fun k hk hk' => hgr.block k hk (fun e => hk' (by rw [hS]; injection e with e; simp [Value.ownBlock, e]))⟩)
      · exact (Below.refl _ _).grown hgr hH.le (fun k hk => by cases hk; exact (hg g0 rfl).1)

/-- A new slice without elements, that is not nil. -/
theorem Has.newrow {L : List Asr} (h : Has w B L) (b : Nat) (T : TypeId) (size : Nat) (hb : w.heap.size = b) : Has (w.alloc (.cells #[] T)) B (row T size (.slice (some ⟨b, 0, none⟩) 0 0) 0 [] :: L) := hb ▸
  h.new _ (by simp) (fun k hk => Below.heap_alloc w _ k hk) ⟨[w.heap.size], ⟨rfl, World.ownsRow_made w #[] 0 (Nat.zero_le _) (Nat.zero_le _) (by simp)⟩, by simp⟩
end

/-! ### contracts -/
/-- How a call ends that hands back v x, and has A' x then, beside the rest X. -/
def Ends {α : Type} (v : α → Value) (A' : α → List Asr) (X : List Asr) (B : Nat) (w : World) (e : Ending) (w' : World) : Prop := ∃ x, e = .returned (v x) ∧ Has w' B (A' x ++ X) ∧ Below B w w'

/-- A call that asks for A, hands back v x and leaves A' x, whatever else there is. -/
def Does {α : Type} (P : Program) (f : FuncId) (args : Array Value) (A : List Asr) (v : α → Value) (A' : α → List Asr) : Prop :=
  ∀ w B X, Has w B (A ++ X) → Calls P f args w (Ends v A' X B w)

section
variable {α : Type} {P : Program} {f : FuncId} {args : Array Value} {w : World} {B : Nat} {v : α → Value}

/-- The contract of a call that turns one thing, at its place in a list. -/
theorem Does.at {A : Asr} {A' : α → Asr} (h : Does P f args [A] v (fun x => [A' x])) (L1 L2 : List Asr) (hH : Has w B (L1 ++ A :: L2)) :
    Calls P f args w fun e w' => ∃ x, e = .returned (v x) ∧ Has w' B (L1 ++ A' x :: L2) ∧ Below B w w' :=
  (h w B (L1 ++ L2) (hH.front L1 L2)).mono fun _ _ ⟨x, he, hh, hb⟩ => ⟨x, he, Has.back L1 L2 hh, hb⟩

/-- .. that makes a thing. -/
theorem Does.mk {A' : α → Asr} (h : Does P f args [] v (fun x => [A' x])) {L : List Asr} (hH : Has w B L) :
    Calls P f args w fun e w' => ∃ x, e = .returned (v x) ∧ Has w' B (A' x :: L) ∧ Below B w w' :=
  (h w B L hH).mono fun _ _ ⟨x, he, hh, hb⟩ => ⟨x, he, hh, hb⟩
end

/-- A call that turns nothing of what was there, beside what the call's own caller holds. -/
theorem keeps {P : Program} {f : FuncId} {args : Array Value} {w : World} {B : Nat} {L : List Asr} {v : Value} (h : Calls P f args w fun e w' => e = .returned v ∧ Below w.heap.size w w') (hH : Has w B L) :
    Calls P f args w fun e w' => e = .returned v ∧ Has w' B L ∧ Below B w w' :=
  h.mono fun _ _ ⟨he, hb⟩ => ⟨he, hH.below hb, hb.mono hH.le⟩

/-! ### a slice that came in, and is only read -/
/-- The elements' cells, one behind the other ('size' cells each). -/
structure ArgRow (w : World) (size : Nat) (a : Option Addr) (len : Nat) (cs : List Value) : Prop where
  lc : cs.length = len * size
  small : len ≤ 9223372036854775807
  mem : 0 < len → ∃ b o, a = some ⟨b, o, none⟩ ∧ b < w.heap.size ∧ ∀ j u, cs[j]? = some u → w.cell? ⟨b, o + j, none⟩ = some u

/-- A cell of it, in a later world. -/
theorem ArgRow.later {w w' : World} {b o : Nat} {cs : List Value} (hb : b < w.heap.size) (hc : ∀ j u, cs[j]? = some u → w.cell? ⟨b, o + j, none⟩ = some u) (h : Below w.heap.size w w') (j : Nat) {u : Value} (hj : cs[j]? = some u) : w'.cell? ⟨b, o + j, none⟩ = some u :=
  (h.cell (p := ⟨b, o + j, none⟩) hb).trans (hc j u hj)

/-- Cell i of element k. -/
theorem flat_get {α : Type} (f : α → List Value) (size : Nat) (hf : ∀ x, (f x).length = size) : ∀ (l : List α) (k i : Nat) (x : α), l[k]? = some x → i < size → (l.flatMap f)[k * size + i]? = (f x)[i]?
  | [], _, _, _, h, _ => by simp at h
  | y :: l, 0, i, x, h, hi => by
    simp at h
    subst h
    rw [List.flatMap_cons, List.getElem?_append_left (by rw [hf]; omega)]
    simp
  | y :: l, k + 1, i, x, h, hi => by
    rw [List.flatMap_cons, List.getElem?_append_right (by rw [hf, Nat.add_mul]; omega), hf]
    rw [show (k + 1) * size + i - size = k * size + i from by rw [Nat.add_mul]; omega]
    exact flat_get f size hf l k i x (by simpa using h) hi

theorem flat_length {α : Type} (f : α → List Value) (size : Nat) (hf : ∀ x, (f x).length = size) (l : List α) : (l.flatMap f).length = l.length * size := by
  induction l with
  | nil => simp
  | cons x l ih => rw [List.flatMap_cons, List.length_append, ih, hf, List.length_cons, Nat.add_mul]; omega

/-- Cell i of element k of a slice that came in, in a later world, as a walk spells it. -/
theorem ArgRow.elem {α : Type} {f : α → List Value} {size : Nat} (hf : ∀ x, (f x).length = size) {l : List α} {w w' : World} {b o : Nat} (hb : b < w.heap.size) (hc : ∀ j u, (l.flatMap f)[j]? = some u → w.cell? ⟨b, o + j, none⟩ = some u)
    (h : Below w.heap.size w w') (k i : Nat) (x : α) (hx : l[k]? = some x) {u : Value} (hu : (f x)[i]? = some u) : w'.cell? ⟨b, o + k * size + i, none⟩ = some u := by
  have hi : i < size := by rw [← hf x]; exact (List.getElem?_eq_some_iff.1 hu).1
  have := flat_get f size hf l k i x hx hi
  rw [Nat.add_assoc]
  exact ArgRow.later hb hc h _ (this.trans hu)

/-- The cells of an array of bools. -/
def boolsA (l : List Bool) : Array Value := (l.map Value.bool).toArray
/-- An array of bools at its beginning. (A plain definition: a walk would write the list out.) -/
def falses (n : Nat) : List Bool := List.replicate n false
theorem falses_length (n : Nat) : (falses n).length = n := by simp [falses]
theorem falses_get {n i : Nat} (h : i < n) : (falses n)[i]? = some false := by simp [falses, h]
theorem boolsA_get {l : List Bool} {i : Nat} {x : Bool} (h : l[i]? = some x) : (boolsA l)[i]? = some (.bool x) := by simp [boolsA, h]
theorem boolsA_set (l : List Bool) (i : Nat) (x : Bool) : (boolsA l).setIfInBounds i (.bool x) = boolsA (l.set i x) := by
  simp [boolsA, List.map_set]

/- From here on 'Has' is met by its laws alone: an arm that does not fit fails at once. -/
attribute [irreducible] Has

end Go.Proofs.Yteeapkndappnoaa
