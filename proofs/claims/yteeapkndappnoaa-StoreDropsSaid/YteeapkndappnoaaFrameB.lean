/-
  Frame, Fill and Same of package frame.
-/
import Derived.Test.YteeapkndappnoaaFrame
namespace Go.Proofs.Yteeapkndappnoaa
open Go.RowKit
set_option linter.unusedVariables false
set_option linter.unusedSimpArgs false

/-- The words of a frame. -/
def frameW (W : List Int) (n : Nat) (f : Int) : List Int := if 0 ≤ f ∧ f < n then (W.drop (f.toNat * 8)).take 8 else []
theorem frameW_length {W : List Int} {n : Nat} {f : Int} (hW : W.length = n * 8) (hf : 0 ≤ f ∧ f < n) : (frameW W n f).length = 8 := by
  unfold frameW
  rw [if_pos hf]
  simp
  omega
theorem frameW_no {W : List Int} {n : Nat} {f : Int} (hf : ¬ (0 ≤ f ∧ f < n)) : frameW W n f = [] := by
  unfold frameW
  rw [if_neg hf]

theorem infoU64 : (Try.prog.info? 55).map (fun i => (i.zero, i.size, i.bytes)) = some (some (.int .u64 0), 1, 8) := by kernel_rfl

set_option maxHeartbeats 1000000 in
set_option maxRecDepth 100000 in
theorem Frame_calls (b n : Nat) (W : List Int) (f : Int) (w : World) (B : Nat) (X : List Asr) (hH : Has w B (MemA b n W :: X)) :
    Calls Try.prog 27 #[.pointer (some ⟨b, 0, none⟩), .int .i64 f] w fun e w' => ∃ v, e = .returned v ∧ Has w' B (row 55 1 v (frameW W n f).length (u64s (frameW W n f)) :: MemA b n W :: X) ∧ Below B w w' := by
  obtain ⟨g, ⟨hI1, hI2, hI3⟩, hO⟩ := MemA.open hH
  obtain ⟨i0, hi, hz0, hz1, hz2⟩ := info_parts infoU64
  clear hH
  have hR := hO.nilrow 55 1
  by_cases hf : 0 ≤ f ∧ f < n
  · obtain ⟨p, rfl⟩ := Int.eq_ofNat_of_zero_le hf.1
    have hp : p < n := by omega
    have hL := frameW_length hI3 hf
    have hFe : frameW W n p = (W.drop (p * 8)).take 8 := by unfold frameW; rw [if_pos hf]; simp
    rw [hL]
    generalize frameW W n p = F at *
    have HF := hid hFe
    have HI := hid hI3
    have HL := hid hL
    clear hFe hI3 hL hf
    go_enter Try.func27, Try.ntmps27
    go_wp2_with fail
    go_loopw [5, 6, 7, 8] (fun out _ _ i wr => ∃ (k : Nat) (v : Value), k ≤ 8 ∧ i = .int .i64 k ∧ out = v ∧ Has wr B (row 55 1 v k (u64s (F.take k)) :: blk b 83 #[.slice (some ⟨g, 0, none⟩) n n] :: row 126 8 (.slice (some ⟨g, 0, none⟩) n n) n (u64s W) :: X) ∧ Below B w wr) (fun _ _ _ i _ => 8 - (intOf i).toNat)
    case atStart => exact ⟨0, _, by omega, rfl, rfl, by simpa [u64s] using hR, Below.refl _ _⟩
    case round =>
      obtain ⟨k, v, hk, rfl, rfl, hHr, hBr⟩ := hrel
      clear hR hO
      by_cases hlt : k < 8
      · obtain ⟨x, hx⟩ : ∃ x, W[p * 8 + k]? = some x := ⟨_, List.getElem?_eq_getElem (by have := HI.out; omega)⟩
        have hFx : F.take (k + 1) = F.take k ++ [x] := by
          have e : F[k]? = some x := by rw [HF.out, List.getElem?_take_of_lt hlt, List.getElem?_drop]; exact hx
          rw [List.take_add_one, e]; rfl
        have c0 := hHr.row_cell [_, _] _ (p * 8 + k) (u64s_get hx)
        have cw := word_yes b g n p k hp hlt hI2 wr B _ (hHr.front [_] _)
        have CW := hid cw
        have HX := hid hFx
        clear cw hx hFx
        obtain ⟨ao, cp, rfl, _, _, _⟩ := hHr.row_form [] _
        go_wp2_with fail
        refine CW.out.mono ?_
        rintro e w' ⟨rfl, rfl⟩
        go_wp2_with (at_builtin; refine wpList_append_row [] _ (hHr.alloc _) rfl _ _ 62 rfl i0 (.int .u64 0) 8 Try.underlying62 hi hz0 hz1 hz2 rfl (by decide) rfl ⟨wr.heap.size, 0, none⟩ 1 1 [.int .u64 x] rfl rfl (cell_one_new _ _ _) (by simp [Value.oneCell']) (by decide) (by unfold maxLen; omega) (by omega) ?_; intro g2 cap2 w2 hH2 hB2)
        go_roundw
        case rel => exact ⟨k + 1, _, by omega, by go_num, rfl, by rw [HX.out]; simpa [u64s] using hH2, hBr.trans ((below_new (Below.refl _ _) hHr _).trans hB2)⟩
        case measure => simp [intOf] <;> omega
      · obtain rfl : k = 8 := by omega
        go_wp2_with fail
        go_ret
        exact ⟨_, rfl, by
          have h := hHr
          rw [List.take_of_length_le (by rw [HL.out]; omega)] at h
          have h2 := (h.perm (List.Perm.trans (List.Perm.swap _ _ _) (List.Perm.cons _ (List.Perm.swap _ _ _))))
          exact (MemA.shut (g := g) ⟨hI1, hI2, HI.out⟩ h2).front [_] _, hBr⟩
  · rw [frameW_no hf]
    have hno : ∀ i, ¬ wok n f i := fun i h => hf ⟨h.1, h.2.1⟩
    have HN := hid hno
    clear hno hf
    go_enter Try.func27, Try.ntmps27
    go_wp2_with fail
    go_loopw [5, 6, 7, 8] (fun out _ _ i wr => ∃ (k : Nat), k ≤ 8 ∧ i = .int .i64 k ∧ out = .slice none 0 0 ∧ w = wr) (fun _ _ _ i _ => 8 - (intOf i).toNat)
    case atStart => exact ⟨0, by omega, rfl, rfl, rfl⟩
    case round =>
      obtain ⟨k, hk, rfl, rfl, rfl⟩ := hrel
      by_cases hlt : k < 8
      · have cw := word_no b g n f k (HN.out k) w B _ hO
        have CW := hid cw
        clear cw
        go_wp2_with fail
        refine CW.out.mono ?_
        rintro e w' ⟨rfl, rfl⟩
        go_wp2_with fail
        go_roundw
        case rel => exact ⟨k + 1, by omega, by go_num, rfl, trivial⟩
        case measure => simp [intOf] <;> omega
      · obtain rfl : k = 8 := by omega
        go_wp2_with fail
        go_ret
        have h2 := (hR.perm (List.Perm.trans (List.Perm.swap _ _ _) (List.Perm.cons _ (List.Perm.swap _ _ _))))
        exact ⟨_, rfl, (MemA.shut (g := g) ⟨hI1, hI2, hI3⟩ h2).front [_] _, Below.refl _ _⟩

end Go.Proofs.Yteeapkndappnoaa
