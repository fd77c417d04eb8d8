/-
  Contracts of package free (layer 2): a list of free frames, as the list of those that are free, the one that is taken next last.
-/
import Derived.Test.YtkgijfodjmkhgaaRows
import Derived.Test.YtkgijfodjmkhgaaOwn
namespace Go.Proofs.Ytkgijfodjmkhgaa
open Go.RowKit
set_option linter.unusedVariables false
set_option linter.unusedSimpArgs false

/-- The frames that never were taken, the least last. -/
def freshL (first many fresh : Int) : List Int := (List.range (many - fresh).toNat).map (fun i : Nat => first + many - 1 - (i : Int))

structure FreeS where
  m : Nat
  v : Value
  fresh : Int
  back : List Int
  g : Int → Option Int
  n : Nat

structure FreeInv (first many : Int) (s : FreeS) (F : List Int) : Prop where
  a1 : 0 ≤ first
  a2 : 0 ≤ many
  a3 : first ≤ 256
  a4 : many ≤ 256 - first
  a5 : 0 ≤ s.fresh
  a6 : s.fresh ≤ many
  eq : F = freshL first many s.fresh ++ s.back
  nd : s.back.Nodup
  rg : ∀ x ∈ s.back, first ≤ x ∧ x < first + s.fresh
  tk : ∀ x, (s.g x).isSome = decide (first ≤ x ∧ x < first + s.fresh ∧ x ∉ s.back)
  ln : (s.n : Int) = s.fresh - s.back.length

/-- The program's list, at block b. -/
def FreeA (b : Nat) (first many : Int) (F : List Int) : Asr :=
  Asr.ex fun s : FreeS => Asr.and (FreeInv first many s F) <| Asr.all
    [blk b 50 #[.int .i64 first, .int .i64 many, .int .i64 s.fresh, s.v, .map (some s.m)], imap Try.prog 3 s.m s.g s.n, row 3 1 s.v s.back.length (s.back.map (Value.int .i64))]

theorem zeroInt (w : World) : (zeroValue 3).run Try.prog w = .ok (.int .i64 0) w := by kernel_rfl

theorem FreeNew_ok (first many : Int) (h1 : 0 ≤ first) (h2 : 0 ≤ many) (h3 : first ≤ 256) (h4 : many ≤ 256 - first) :
    Does Try.prog 18 #[.int .i64 first, .int .i64 many] [] (fun b : Nat => .pointer (some ⟨b, 0, none⟩)) (fun b => [FreeA b first many (freshL first many 0)]) := by
  intro w B X hH
  have hH : Has w B X := hH
  have hmm := @run_makeMap Try.prog
  have e1 : decide (first < 0) = false := by simpa using h1
  have e2 : decide (many < 0) = false := by simpa using h2
  have e3 : decide (256 < first) = false := by simpa using h3
  have e4 : decide (256 - first < many) = false := by simpa using h4
  have hM := hH.newmap w.heap.size Try.prog 3 rfl
  have hN := hM.newblk (w.heap.size + 1) 50 #[.int .i64 first, .int .i64 many, .int .i64 0, .slice none 0 0, .map (some w.heap.size)] (by simp)
  have hB := below_new (below_new (Below.refl B w) hH (.map #[] 0)) hM (.cells #[.int .i64 first, .int .i64 many, .int .i64 0, .slice none 0 0, .map (some w.heap.size)] 50)
  go_enter Try.func18, Try.ntmps18
  go_wp2
  go_ret
  refine ⟨w.heap.size + 1, rfl, ?_, hB⟩
  refine Has.shut_ex ⟨w.heap.size, .slice none 0 0, 0, [], fun _ => none, 0⟩ (Has.shut_and ?_ (Has.shut_all _ ?_))
  · exact ⟨h1, h2, h3, h4, by simp, by simpa using h2, by simp, by simp, by simp, fun x => by simp, by simp⟩
  · exact (hN.nilrow 3 1).back [_, _] X

/-- Other numbers: nothing is made. -/
theorem FreeNew_no (first many : Int) (h : first < 0 ∨ many < 0 ∨ 256 < first ∨ 256 - first < many) (w : World) :
    Calls Try.prog 18 #[.int .i64 first, .int .i64 many] w fun e w' => e = .returned (.pointer none) ∧ w = w' := by
  by_cases h1 : first < 0
  · have e1 : decide (first < 0) = true := by simpa using h1
    clear h
    go_enter Try.func18, Try.ntmps18
    go_wp2
    go_ret
    exact ⟨rfl, rfl⟩
  · have e1 : decide (first < 0) = false := by simpa using h1
    by_cases h2 : many < 0
    · have e2 : decide (many < 0) = true := by simpa using h2
      clear h
      go_enter Try.func18, Try.ntmps18
      go_wp2
      go_ret
      exact ⟨rfl, rfl⟩
    · have e2 : decide (many < 0) = false := by simpa using h2
      by_cases h3 : 256 < first
      · have e3 : decide (256 < first) = true := by simpa using h3
        clear h
        go_enter Try.func18, Try.ntmps18
        go_wp2
        go_ret
        exact ⟨rfl, rfl⟩
      · have e3 : decide (256 < first) = false := by simpa using h3
        have h4 : 256 - first < many := by omega
        have e4 : decide (256 - first < many) = true := by simpa using h4
        have h5 : 0 ≤ first := by omega
        have h6 : first ≤ 256 := by omega
        clear h
        go_enter Try.func18, Try.ntmps18
        go_wp2
        go_ret
        exact ⟨rfl, rfl⟩

/-- A list opened: what it is made of. -/
theorem FreeA.open {b : Nat} {first many : Int} {F : List Int} {w : World} {B : Nat} {X : List Asr} (hH : Has w B (FreeA b first many F :: X)) : ∃ s : FreeS, FreeInv first many s F ∧
    Has w B (blk b 50 #[.int .i64 first, .int .i64 many, .int .i64 s.fresh, s.v, .map (some s.m)] :: imap Try.prog 3 s.m s.g s.n :: row 3 1 s.v s.back.length (s.back.map (Value.int .i64)) :: X) := by
  obtain ⟨s, hH⟩ := hH.open_ex
  obtain ⟨hI, hH⟩ := hH.open_and
  exact ⟨s, hI, hH.open_all⟩

theorem FreeA.shut {b : Nat} {first many : Int} {F : List Int} {w : World} {B : Nat} {X : List Asr} (m : Nat) (v : Value) (fresh : Int) (back : List Int) (g : Int → Option Int) (n : Nat)
    (hI : FreeInv first many ⟨m, v, fresh, back, g, n⟩ F)
    (hH : Has w B (blk b 50 #[.int .i64 first, .int .i64 many, .int .i64 fresh, v, .map (some m)] :: imap Try.prog 3 m g n :: row 3 1 v back.length (back.map (Value.int .i64)) :: X)) : Has w B (FreeA b first many F :: X) :=
  Has.shut_ex ⟨m, v, fresh, back, g, n⟩ (Has.shut_and hI (Has.shut_all [_, _, _] hH))

/-- The three cells and marks of a list's own block. -/
theorem free_cells {b m : Nat} {first many fresh : Int} {v : Value} {w : World} {B : Nat} {X : List Asr} (hH : Has w B (blk b 50 #[.int .i64 first, .int .i64 many, .int .i64 fresh, v, .map (some m)] :: X)) :
    w.cell? ⟨b, 0, none⟩ = some (.int .i64 first) ∧ w.cell? ⟨b, 1, none⟩ = some (.int .i64 many) ∧ w.cell? ⟨b, 2, none⟩ = some (.int .i64 fresh) ∧ w.cell? ⟨b, 3, none⟩ = some v ∧ w.cell? ⟨b, 4, none⟩ = some (.map (some m)) ∧
    w.frozen? ⟨b, 2, none⟩ = false ∧ w.frozen? ⟨b, 3, none⟩ = false :=
  ⟨Has.cell [] _ hH 0 rfl, Has.cell [] _ hH 1 rfl, Has.cell [] _ hH 2 rfl, Has.cell [] _ hH 3 rfl, Has.cell [] _ hH 4 rfl, Has.frozen [] _ hH 2, Has.frozen [] _ hH 3⟩

theorem infoInt : (Try.prog.info? 3).map (fun i => (i.zero, i.size, i.bytes)) = some (some (.int .i64 0), 1, 8) := by kernel_rfl

def hasB (first many f : Int) (tk : Bool) : Bool := decide (first ≤ f) && decide (f < first + many) && !tk

/-! ### what the pure steps keep -/
theorem freshL_end (first many : Int) : freshL first many many = [] := by simp [freshL]
theorem freshL_step (first many fresh : Int) (h0 : fresh < many) : freshL first many fresh = freshL first many (fresh + 1) ++ [first + fresh] := by
  unfold freshL
  obtain ⟨d, hd⟩ : ∃ d : Nat, many - fresh = d + 1 := ⟨(many - fresh - 1).toNat, by omega⟩
  rw [show (many - fresh).toNat = d + 1 from by omega, show (many - (fresh + 1)).toNat = d from by omega, List.range_succ, List.map_append]
  simp
  omega
theorem freshL_mem (first many fresh x : Int) : x ∈ freshL first many fresh ↔ first + fresh ≤ x ∧ x < first + many := by
  unfold freshL
  simp only [List.mem_map, List.mem_range]
  constructor
  · rintro ⟨i, hi, rfl⟩; omega
  · intro h; exact ⟨(first + many - 1 - x).toNat, by omega, by omega⟩
theorem freshL_length (first many fresh : Int) : (freshL first many fresh).length = (many - fresh).toNat := by simp [freshL]

theorem FreeInv.mem {first many : Int} {s : FreeS} {F : List Int} (h : FreeInv first many s F) (x : Int) : x ∈ F ↔ first ≤ x ∧ x < first + many ∧ (s.g x).isSome = false := by
  have h5 := h.a5
  have h6 := h.a6
  rw [h.eq, List.mem_append, freshL_mem, h.tk]
  constructor
  · rintro (h1 | h1)
    · refine ⟨by omega, h1.2, ?_⟩
      simp; intro h2 h3; omega
    · have := h.rg x h1
      exact ⟨this.1, by omega, by simp [h1]⟩
  · rintro ⟨h1, h2, h3⟩
    simp at h3
    by_cases hx : x < first + s.fresh
    · exact .inr (h3 h1 hx)
    · exact .inl ⟨by omega, h2⟩

theorem FreeInv.length {first many : Int} {s : FreeS} {F : List Int} (h : FreeInv first many s F) : (F.length : Int) = many - s.n := by
  have h5 := h.a5
  have h6 := h.a6
  rw [h.eq, List.length_append, freshL_length, h.ln]
  omega

theorem FreeInv.nodup {first many : Int} {s : FreeS} {F : List Int} (h : FreeInv first many s F) : F.Nodup := by
  rw [h.eq, List.nodup_append]
  refine ⟨?_, h.nd, fun a ha b hb e => ?_⟩
  · unfold freshL
    exact List.pairwise_map.2 (List.Pairwise.imp (fun h e => h (by omega)) List.nodup_range)
  · subst e
    have := (freshL_mem _ _ _ _).1 ha
    have := h.rg _ hb
    omega

end Go.Proofs.Ytkgijfodjmkhgaa
