/-
  Same of package frame.
-/
import Derived.Test.YtedjanjjfhpcnaaFrameC
import Derived.Laws.StructEq
namespace Go.Proofs.Ytedjanjjfhpcnaa
open Go.RowKit
set_option linter.unusedVariables false
set_option linter.unusedSimpArgs false

theorem all_range_ints : ∀ (xs ys : List Int), xs.length = ys.length → ((List.range xs.length).all fun i => xs.getD i 0 == ys.getD i 0) = (xs == ys)
  | [], [], _ => rfl
  | x :: xs, y :: ys, h => by
    have ih := all_range_ints xs ys (by simpa using h)
    rw [List.length_cons, List.range_succ_eq_map, List.all_cons, List.all_map]
    simp only [List.getD_cons_zero, Function.comp_def, List.getD_cons_succ, ih]
    simp [List.cons_beq_cons]
  | [], _ :: _, h => by simp at h
  | _ :: _, [], h => by simp at h

theorem run_equalIn_ints {P : Program} (w : World) (d : Nat) (t e : TypeId) (n : Nat) (k : IntKind) (ht : P.underlying t = some (.array n e)) (he : P.underlying e = some (.int k)) (hsz : ∀ w, (sizeOf e).run P w = .ok 1 w)
    (xs ys : List Int) (hx : xs.length = n) (hy : ys.length = n) :
    (Op.equalIn (d + 2) t (.agg (xs.map (Value.int k)).toArray) (.agg (ys.map (Value.int k)).toArray)).run P w = .ok (xs == ys) w := by
  rw [← all_range_ints xs ys (hx.trans hy.symm), hx, List.range_eq_range', Op.equalIn]
  simp only [Sem.run_bind, run_underlying ht, Result.andThen_ok, hsz, Std.Legacy.Range.forIn_eq_forIn_range', Std.Legacy.Range.size, Nat.sub_zero, Nat.add_sub_cancel, Nat.div_one]
  have hl : ∀ i ∈ List.range' 0 n 1, i < n := fun i hi => by simpa using (List.mem_range'_1.1 hi).2
  generalize List.range' 0 n 1 = l at hl ⊢
  induction l with
  | nil => simp
  | cons i l ih =>
    have hi : i < n := hl i (by simp)
    have px : (part e (xs.map (Value.int k)).toArray (i * 1)).run P w = .ok (.int k (xs.getD i 0)) w := by
      simp [part, isAgg, run_underlying he, List.getD, List.getElem?_eq_getElem (show i < xs.length by omega)]
    have py : (part e (ys.map (Value.int k)).toArray (i * 1)).run P w = .ok (.int k (ys.getD i 0)) w := by
      simp [part, isAgg, run_underlying he, List.getD, List.getElem?_eq_getElem (show i < ys.length by omega)]
    have pe : (Op.equalIn (d + 1) e (.int k (xs.getD i 0)) (.int k (ys.getD i 0))).run P w = .ok (xs.getD i 0 == ys.getD i 0) w := by
      rw [run_equalIn_int w d e k k _ _ he]
    simp only [List.forIn_cons, Sem.run_bind, px, py, pe, Result.andThen_ok, List.all_cons]
    cases hb : (xs.getD i 0 == ys.getD i 0)
    · simp
    · simp only [Bool.not_true, Bool.false_eq_true, if_false, Sem.run_pure, Result.andThen_ok, Bool.true_and]
      exact ih fun j hj => hl j (by simp [hj])

theorem run_eql_frame (xs ys : List Int) (hx : xs.length = 8) (hy : ys.length = 8) (w : World) : Sem.run Try.prog (binOp .eql 55 (.agg (u64s xs).toArray) (.agg (u64s ys).toArray)) w = .ok (.bool (xs == ys)) w := by
  have hsz : ∀ w, (sizeOf 29).run Try.prog w = .ok 1 w := fun w => by
    obtain ⟨i0, hi, _, hz1, _⟩ := info_parts infoU64
    simp [sizeOf, typeInfo, hi, hz1]
  rw [run_eql_struct]
  unfold u64s
  rw [run_equalIn_ints w 9998 55 29 8 .u64 Try.underlying55 Try.underlying29 hsz xs ys hx hy]
  rfl

theorem fr_size8 : (Try.prog.info? 55).map (fun i => i.size) = some 8 := by kernel_rfl
theorem fr_size {l : List Int} (h : l.length = 8) : (Try.prog.info? 55).map (fun i => i.size) = some (u64s l).toArray.size := by
  have e : (u64s l).toArray.size = 8 := by simp [u64s, h]
  rw [e, fr_size8]
theorem fr_size' {l : List Int} (h : l.length = 8) : (Try.prog.info? 55).map (fun i => i.size) = some (u64s l).length := by
  rw [u64s_length, h, fr_size8]
theorem fr_one (l : List Int) : ∀ u ∈ (u64s l).toArray.toList, u.oneCell' = true := by simp [u64s, Value.oneCell']
def zero8 : Array Value := #[.int .u64 0, .int .u64 0, .int .u64 0, .int .u64 0, .int .u64 0, .int .u64 0, .int .u64 0, .int .u64 0]
theorem fr_zero {l : List Int} (h : l.length = 8) : (u64s l).toArray.size = zero8.size := by simp [u64s, h, zero8]

set_option maxHeartbeats 1000000 in
theorem Eq_calls (xs ys : List Int) (hx : xs.length = 8) (hy : ys.length = 8) (w : World) :
    Calls Try.prog 28 #[.agg (u64s xs).toArray, .agg (u64s ys).toArray] w fun e w' => e = .returned (.bool (xs == ys)) ∧ Below w.heap.size w w' := by
  have h := run_eql_frame xs ys hx hy
  have hH0 : Has w w.heap.size [] := Has.nil (Nat.le_refl _)
  have hH1 := hH0.newblk w.heap.size 55 (u64s xs).toArray rfl
  have hB1 := below_new (Below.refl _ w) hH0 (.cells (u64s xs).toArray 55)
  have hH2 := hH1.newblk (w.heap.size + 1) 55 (u64s ys).toArray (by simp)
  have hB2 := below_new hB1 hH1 (.cells (u64s ys).toArray 55)
  have X1 := hid (fr_size hx)
  have X2 := hid (fr_size hy)
  clear hx hy
  go_enter Try.func28, Try.ntmps28
  go_wp2_with (first
    | (refine wpList_load_blk [_] _ hH2 55 (.tmp 2) rfl rfl rfl _ Try.underlying55 rfl X1.out ?_)
    | (refine wpList_load_blk [] _ hH2 55 (.tmp 3) rfl rfl rfl _ Try.underlying55 rfl X2.out ?_))
  go_ret
  exact ⟨rfl, hB2⟩

theorem frame_part {W : List Int} {n k : Nat} (hW : W.length = n * 8) (hk : k < n) : ∀ j u, (u64s (frameW W n k))[j]? = some u → (u64s W)[k * 8 + j]? = some u := by
  intro j u hj
  have hj8 : j < 8 := by
    have := (List.getElem?_eq_some_iff.1 hj).1
    rw [u64s_length, frameW_length hW ⟨by omega, by omega⟩] at this
    exact this
  have e : frameW W n k = (W.drop (k * 8)).take 8 := by unfold frameW; rw [if_pos ⟨by omega, by omega⟩]; simp
  rw [e] at hj
  simp only [u64s, List.getElem?_map, List.getElem?_take_of_lt hj8, List.getElem?_drop] at hj ⊢
  exact hj

/-- Memories are alike just if each frame is. -/
theorem frames_eq {W V : List Int} {n : Nat} (hW : W.length = n * 8) (hV : V.length = n * 8) (h : ∀ k : Nat, k < n → frameW W n k = frameW V n k) : W = V := by
  refine List.ext_getElem? fun i => ?_
  by_cases hi : i < n * 8
  · have hk : i / 8 < n := by omega
    have h1 := h (i / 8) hk
    unfold frameW at h1
    rw [if_pos ⟨by omega, by omega⟩, if_pos ⟨by omega, by omega⟩] at h1
    have h2 := congrArg (fun l : List Int => l[i % 8]?) h1
    simp only [Int.toNat_natCast] at h2
    rw [List.getElem?_take_of_lt (by omega), List.getElem?_take_of_lt (by omega), List.getElem?_drop, List.getElem?_drop] at h2
    have e : i / 8 * 8 + i % 8 = i := by omega
    rw [e] at h2
    exact h2
  · rw [List.getElem?_eq_none (by omega), List.getElem?_eq_none (by omega)]

set_option maxHeartbeats 2000000 in
set_option maxRecDepth 100000 in
theorem EqualFunc_calls (g h n m : Nat) (W V : List Int) (hn : n ≤ 256) (hm : m ≤ 256) (hW : W.length = n * 8) (hV : V.length = m * 8) (w : World) (B : Nat) (L2 : List Asr)
    (hH : Has w B (row 55 8 (.slice (some ⟨g, 0, none⟩) n n) n (u64s W) :: row 55 8 (.slice (some ⟨h, 0, none⟩) m m) m (u64s V) :: L2)) :
    Calls Try.prog 27 #[.slice (some ⟨g, 0, none⟩) n n, .slice (some ⟨h, 0, none⟩) m m, .func (.func 28) #[] #[]] w fun e w' => e = .returned (.bool (W == V)) ∧
      Has w' B (row 55 8 (.slice (some ⟨g, 0, none⟩) n n) n (u64s W) :: row 55 8 (.slice (some ⟨h, 0, none⟩) m m) m (u64s V) :: L2) ∧ Below B w w' := by
  by_cases hnm : n = m
  · subst hnm
    go_enter Try.func27, Try.ntmps27
    go_wp2_with fail
    go_loopw [7, 8, 9, 17] (fun _ _ _ i wr => ∃ k : Nat, k ≤ n ∧ i = .int .i64 k ∧ Has wr B (row 55 8 (.slice (some ⟨g, 0, none⟩) n n) n (u64s W) :: row 55 8 (.slice (some ⟨h, 0, none⟩) n n) n (u64s V) :: L2) ∧ Below B w wr ∧ ∀ j : Nat, j < k → frameW W n j = frameW V n j) (fun _ _ _ i _ => n - (intOf i).toNat)
    case atStart => exact ⟨0, by omega, rfl, hH, Below.refl _ _, fun j hj => by omega⟩
    case round =>
      obtain ⟨k, hk, rfl, hHr, hBr, hall⟩ := hrel
      have HALL := hid hall
      clear hall hH
      by_cases hlt : k < n
      · have f1 := frameW_length hW (f := (k : Int)) ⟨by omega, by omega⟩
        have f2 := frameW_length hV (f := (k : Int)) ⟨by omega, by omega⟩
        have P1 := hid (hHr.row_part [] _ (k * 8) _ (frame_part hW hlt))
        have P2 := hid (frame_part hV hlt)
        have HNE : Hid (frameW W n k ≠ frameW V n k → (W == V) = false) := hid (fun h => by
          rw [beq_eq_false_iff_ne]
          intro e
          exact h (by rw [e]))
        obtain ⟨Fx, hFx⟩ : ∃ Fx, frameW W n k = Fx := ⟨_, rfl⟩
        obtain ⟨Fy, hFy⟩ : ∃ Fy, frameW V n k = Fy := ⟨_, rfl⟩
        have HFX := hid hFx
        have HFY := hid hFy
        rw [hFx] at P1 f1 HNE
        rw [hFy] at P2 f2 HNE
        have X1 := hid (fr_size f1)
        have X2 := hid (fr_size f2)
        have X1' := hid (fr_size' f1)
        have X2' := hid (fr_size' f2)
        have Z1 := hid (fr_zero f1)
        have Z2 := hid (fr_zero f2)
        have E := hid (Eq_calls Fx Fy f1 f2)
        clear hFx hFy f1 f2
        have tok1 : True := trivial
        have tok2 : True := trivial
        go_wp2_with (first
          | (have _t := tok1; refine wpList_load_at 55 (.tmp 20) rfl rfl ⟨g, k * 8, none⟩ rfl _ (u64s Fx) P1.out Try.underlying55 rfl X1'.out ?_; clear _t tok1)
          | (have _t := tok2; refine wpList_store_all [] _ (hHr.newblk wr.heap.size 55 zero8 rfl) 55 (.tmp 8) (.tmp 21) rfl rfl rfl _ rfl X1.out Z1.out (fr_one _) ?_; clear _t tok2; intro w2 hH2 hB2 hz2; have P3 := hid (hH2.row_part [_, _] _ (k * 8) _ P2.out); have tok3 : True := trivial)
          | (have _t := tok3; refine wpList_load_at 55 (.tmp 24) rfl rfl ⟨h, k * 8, none⟩ rfl _ (u64s Fy) P3.out Try.underlying55 rfl X2'.out ?_; clear _t tok3; have tok4 : True := trivial)
          | (have _t := tok4; refine wpList_store_all [] _ (hH2.newblk (wr.heap.size + 1) 55 zero8 (hz2.trans (by simp))) 55 (.tmp 9) (.tmp 25) rfl rfl rfl _ rfl X2.out Z2.out (fr_one _) ?_; clear _t tok4; intro w3 hH3 hB3 hz3)
          | (refine wpList_load_blk [_] _ hH3 55 (.tmp 8) rfl rfl rfl _ Try.underlying55 rfl X1.out ?_)
          | (refine wpList_load_blk [] _ hH3 55 (.tmp 9) rfl rfl rfl _ Try.underlying55 rfl X2.out ?_))
        refine (keeps (E.out _) hH3).mono ?_
        rintro e w4 ⟨rfl, hH4, hB4⟩
        have hH5 := hH4.drop.drop
        have hB5 := hBr.trans ((((below_new (Below.refl _ _) hHr _).trans hB2).trans ((below_new (Below.refl _ _) hH2 _).trans hB3)).trans hB4)
        clear hHr hBr hB2 hB3 hB4 hH2 hH3 hH4 hz2 hz3
        by_cases hxy : Fx = Fy
        · have e1 : (Fx == Fy) = true := by rw [beq_iff_eq]; exact hxy
          have HXY := hid hxy
          clear hxy
          go_wp2_with fail
          go_roundw
          case rel => exact ⟨k + 1, by omega, by go_num, hH5, hB5, fun j hj => by
            by_cases e : j = k
            · subst e; rw [HFX.out, HFY.out, HXY.out]
            · exact HALL.out j (by omega)⟩
          case measure => simp [intOf] <;> omega
        · have e1 : (Fx == Fy) = false := by rw [beq_eq_false_iff_ne]; exact hxy
          have hr := HNE.out hxy
          have HR := hid hr
          clear hxy hr
          go_wp2_with fail
          go_ret
          exact ⟨by rw [HR.out]; rfl, hH5, hB5⟩
      · obtain rfl : k = n := by omega
        have hr : (W == V) = true := by rw [beq_iff_eq]; exact frames_eq hW hV HALL.out
        have HR := hid hr
        clear hr
        go_wp2_with fail
        go_ret
        exact ⟨by rw [HR.out]; rfl, hHr, hBr⟩
  · have e1 : (n == m) = false := by rw [beq_eq_false_iff_ne]; exact hnm
    have e2 : ((n : Int) == (m : Int)) = false := by rw [beq_eq_false_iff_ne]; omega
    have hr : (W == V) = false := by
      rw [beq_eq_false_iff_ne]
      intro e
      rw [e] at hW
      omega
    rw [hr]
    clear hr
    go_enter Try.func27, Try.ntmps27
    go_wp2_with fail
    go_ret
    exact ⟨rfl, hH, Below.refl _ _⟩

theorem Same_calls (b d n m : Nat) (W V : List Int) (w : World) (B : Nat) (X : List Asr) (hH : Has w B (MemA b n W :: MemA d m V :: X)) :
    Calls Try.prog 24 #[.pointer (some ⟨b, 0, none⟩), .pointer (some ⟨d, 0, none⟩)] w fun e w' => e = .returned (.bool (W == V)) ∧ Has w' B (MemA b n W :: MemA d m V :: X) ∧ Below B w w' := by
  obtain ⟨g, ⟨hI1, hI2, hI3⟩, hO⟩ := MemA.open hH
  obtain ⟨h, ⟨hJ1, hJ2, hJ3⟩, hO2⟩ := MemA.open (hO.perm (List.perm_middle (l₁ := [_, _])))
  have c0 := hO2.cell [] _ 0 rfl
  have c1 := hO2.cell [_, _] _ 0 rfl
  have hO3 : Has w B (row 55 8 (.slice (some ⟨g, 0, none⟩) n n) n (u64s W) :: row 55 8 (.slice (some ⟨h, 0, none⟩) m m) m (u64s V) :: blk d 49 #[.slice (some ⟨h, 0, none⟩) m m] :: blk b 49 #[.slice (some ⟨g, 0, none⟩) n n] :: X) := (hO2.front [_] _).front [_, _, _] _
  have E := hid (EqualFunc_calls g h n m W V hI2 hJ2 hI3 hJ3 w.drew B _ hO3.drew)
  have hBd : Below B w w.drew := (Below.refl B w).drew
  clear hH hO hO2 hO3
  go_enter Try.func24, Try.ntmps24
  go_wp2_with fail
  go_still_tail 8, (by kernel_rfl)
  change wpList _ _ _ _ _ (w.drew)
  go_wp2_with fail
  refine E.out.mono ?_
  rintro e w4 ⟨rfl, hH4, hB4⟩
  go_wp2_with fail
  go_ret
  refine ⟨rfl, ?_, hBd.trans hB4⟩
  have h1 := MemA.shut (g := g) ⟨hI1, hI2, hI3⟩ (hH4.front [_, _, _] _)
  have h2 := MemA.shut (g := h) ⟨hJ1, hJ2, hJ3⟩ ((h1.front [_] _).front [_, _] _)
  exact h2.front [_] _

end Go.Proofs.Ytedjanjjfhpcnaa
