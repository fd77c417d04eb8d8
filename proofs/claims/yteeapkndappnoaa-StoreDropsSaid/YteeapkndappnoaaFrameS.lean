/-
  Same of package frame.
-/
import Derived.Test.YteeapkndappnoaaFrameC
import Derived.Laws.StructEq
namespace Go.Proofs.Yteeapkndappnoaa
open Go.RowKit
set_option linter.unusedVariables false
set_option linter.unusedSimpArgs false

theorem all_range_ints : ∀ (xs ys : List Int), xs.length = ys.length → ((List.range xs.length).all fun i => xs.getD i 0 == ys.getD i 0) = (xs == ys)
  | [], [], _ => rfl
  | x :: xs, y :: ys, h => by
    have ih := all_range_ints xs ys (by simpa using h)
    rw [List.length_cons, List.range_succ_eq_map, List.all_cons, List.all_map]
    simp only [List.getD_cons_zero, Function.comp_def, List.getD_cons_succ, ih]
    simp [List.cons_beq_cons]
  | [], _ :: _, h => by simp at h
  | _ :: _, [], h => by simp at h

theorem run_equalIn_ints {P : Program} (w : World) (d : Nat) (t e : TypeId) (n : Nat) (k : IntKind) (ht : P.underlying t = some (.array n e)) (he : P.underlying e = some (.int k)) (hsz : ∀ w, (sizeOf e).run P w = .ok 1 w)
    (xs ys : List Int) (hx : xs.length = n) (hy : ys.length = n) :
    (Op.equalIn (d + 2) t (.agg (xs.map (Value.int k)).toArray) (.agg (ys.map (Value.int k)).toArray)).run P w = .ok (xs == ys) w := by
  rw [← all_range_ints xs ys (hx.trans hy.symm), hx, List.range_eq_range', Op.equalIn]
  simp only [Sem.run_bind, run_underlying ht, Result.andThen_ok, hsz, Std.Legacy.Range.forIn_eq_forIn_range', Std.Legacy.Range.size, Nat.sub_zero, Nat.add_sub_cancel, Nat.div_one]
  have hl : ∀ i ∈ List.range' 0 n 1, i < n := fun i hi => by simpa using (List.mem_range'_1.1 hi).2
  generalize List.range' 0 n 1 = l at hl ⊢
  induction l with
  | nil => simp
  | cons i l ih =>
    have hi : i < n := hl i (by simp)
    have px : (part e (xs.map (Value.int k)).toArray (i * 1)).run P w = .ok (.int k (xs.getD i 0)) w := by
      simp [part, isAgg, run_underlying he, List.getD, List.getElem?_eq_getElem (show i < xs.length by omega)]
    have py : (part e (ys.map (Value.int k)).toArray (i * 1)).run P w = .ok (.int k (ys.getD i 0)) w := by
      simp [part, isAgg, run_underlying he, List.getD, List.getElem?_eq_getElem (show i < ys.length by omega)]
    have pe : (Op.equalIn (d + 1) e (.int k (xs.getD i 0)) (.int k (ys.getD i 0))).run P w = .ok (xs.getD i 0 == ys.getD i 0) w := by
      rw [run_equalIn_int w d e k k _ _ he]
    simp only [List.forIn_cons, Sem.run_bind, px, py, pe, Result.andThen_ok, List.all_cons]
    cases hb : (xs.getD i 0 == ys.getD i 0)
    · simp
    · simp only [Bool.not_true, Bool.false_eq_true, if_false, Sem.run_pure, Result.andThen_ok, Bool.true_and]
      exact ih fun j hj => hl j (by simp [hj])

theorem run_eql_frame (xs ys : List Int) (hx : xs.length = 8) (hy : ys.length = 8) (w : World) : Sem.run Try.prog (binOp .eql 126 (.agg (u64s xs).toArray) (.agg (u64s ys).toArray)) w = .ok (.bool (xs == ys)) w := by
  have hsz : ∀ w, (sizeOf 55).run Try.prog w = .ok 1 w := fun w => by
    obtain ⟨i0, hi, _, hz1, _⟩ := info_parts infoU64
    simp [sizeOf, typeInfo, hi, hz1]
  rw [run_eql_struct]
  unfold u64s
  rw [run_equalIn_ints w 9998 126 55 8 .u64 Try.underlying126 Try.underlying55 hsz xs ys hx hy]
  rfl

theorem fr_size8 : (Try.prog.info? 126).map (fun i => i.size) = some 8 := by kernel_rfl
theorem fr_size {l : List Int} (h : l.length = 8) : (Try.prog.info? 126).map (fun i => i.size) = some (u64s l).toArray.size := by
  have e : (u64s l).toArray.size = 8 := by simp [u64s, h]
  rw [e, fr_size8]
theorem fr_size' {l : List Int} (h : l.length = 8) : (Try.prog.info? 126).map (fun i => i.size) = some (u64s l).length := by
  rw [u64s_length, h, fr_size8]
theorem fr_one (l : List Int) : ∀ u ∈ (u64s l).toArray.toList, u.oneCell' = true := by simp [u64s, Value.oneCell']
def zero8 : Array Value := #[.int .u64 0, .int .u64 0, .int .u64 0, .int .u64 0, .int .u64 0, .int .u64 0, .int .u64 0, .int .u64 0]
theorem fr_zero {l : List Int} (h : l.length = 8) : (u64s l).toArray.size = zero8.size := by simp [u64s, h, zero8]

theorem frame_part {W : List Int} {n k : Nat} (hW : W.length = n * 8) (hk : k < n) : ∀ j u, (u64s (frameW W n k))[j]? = some u → (u64s W)[k * 8 + j]? = some u := by
  intro j u hj
  have hj8 : j < 8 := by
    have := (List.getElem?_eq_some_iff.1 hj).1
    rw [u64s_length, frameW_length hW ⟨by omega, by omega⟩] at this
    exact this
  have e : frameW W n k = (W.drop (k * 8)).take 8 := by unfold frameW; rw [if_pos ⟨by omega, by omega⟩]; simp
  rw [e] at hj
  simp only [u64s, List.getElem?_map, List.getElem?_take_of_lt hj8, List.getElem?_drop] at hj ⊢
  exact hj

/-- Memories are alike just if each frame is. -/
theorem frames_eq {W V : List Int} {n : Nat} (hW : W.length = n * 8) (hV : V.length = n * 8) (h : ∀ k : Nat, k < n → frameW W n k = frameW V n k) : W = V := by
  refine List.ext_getElem? fun i => ?_
  by_cases hi : i < n * 8
  · have hk : i / 8 < n := by omega
    have h1 := h (i / 8) hk
    unfold frameW at h1
    rw [if_pos ⟨by omega, by omega⟩, if_pos ⟨by omega, by omega⟩] at h1
    have h2 := congrArg (fun l : List Int => l[i % 8]?) h1
    simp only [Int.toNat_natCast] at h2
    rw [List.getElem?_take_of_lt (by omega), List.getElem?_take_of_lt (by omega), List.getElem?_drop, List.getElem?_drop] at h2
    have e : i / 8 * 8 + i % 8 = i := by omega
    rw [e] at h2
    exact h2
  · rw [List.getElem?_eq_none (by omega), List.getElem?_eq_none (by omega)]

end Go.Proofs.Yteeapkndappnoaa
