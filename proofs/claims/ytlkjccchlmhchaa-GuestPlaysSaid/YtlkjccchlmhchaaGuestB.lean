/-
  Load of package guest.
-/
import Derived.Test.YtlkjccchlmhchaaGuest
namespace Go.Proofs.Ytlkjccchlmhchaa
open Go.RowKit
set_option linter.unusedVariables false
set_option linter.unusedSimpArgs false

theorem sz_u64 (W : World) : Sem.run Try.prog (sizeOf 33) W = .ok 1 W := by kernel_rfl
theorem el_u64 : Try.prog.elem 34 = 33 := by kernel_rfl
theorem addr_addG (b o j : Nat) : (⟨b, o, none⟩ : Addr).add j = ⟨b, o + j, none⟩ := by unfold Addr.add; split <;> simp_all
/-- Eight words of a slice. -/
theorem cut8 (b o len cap k : Nat) (hk : k * 8 + 8 ≤ cap) (W : World) :
    Sem.run Try.prog (Instr.slice 34 (.slice (some ⟨b, o, none⟩) len cap) (some (.int .i64 ((k : Int) * 8))) (some (.int .i64 ((k : Int) * 8 + 8))) (some (.int .i64 ((k : Int) * 8 + 8)))) W = .ok (.slice (some ⟨b, o + k * 8, none⟩) 8 8) W := by
  rw [run_slice_lhm (P := Try.prog) W 34 (some ⟨b, o, none⟩) len cap (by rw [el_u64]; exact Try.underlying34) .i64 .i64 .i64 _ _ _ (by omega) (by omega) (by omega) (by omega), el_u64, sz_u64]
  have e1 : ((k : Int) * 8).toNat = k * 8 := by omega
  have e2 : ((k : Int) * 8 + 8).toNat = k * 8 + 8 := by omega
  rw [e1, e2]
  simp [Result.andThen, sliced, addr_addG]
theorem SrcU.part {w : World} {b o : Nat} {ws : List Int} (h : SrcU w (some ⟨b, o, none⟩) ws) (k : Nat) (hk : k * 8 + 8 ≤ ws.length) : SrcU w (some ⟨b, o + k * 8, none⟩) ((ws.drop (k * 8)).take 8) := by
  refine ⟨by simp; omega, fun _ => ?_⟩
  obtain ⟨b', o', e, hlt, hc⟩ := h.mem (by omega)
  injection e with e
  injection e with e1 e2 e3
  subst e1 e2
  refine ⟨b, o + k * 8, rfl, hlt, fun j u hj => ?_⟩
  have hj8 : j < 8 := by have := (List.getElem?_eq_some_iff.1 hj).1; rw [u64s_length] at this; simp at this; omega
  have := hc (k * 8 + j) u (by
    simp only [u64s, List.getElem?_map, List.getElem?_take_of_lt hj8, List.getElem?_drop] at hj ⊢
    exact hj)
  rwa [← Nat.add_assoc] at this

/-- The words to be loaded are there, whatever the guest's are. -/
def Words (B gb mb hb n : Nat) (l : List Int) (X : List Asr) (w : World) (a : Option Addr) (ws : List Int) : Prop :=
  ∀ w' W', Has w' B (gstB gb mb hb :: GmapA mb l :: MemA hb n W' :: X) → Below B w w' → SrcU w' a ws

set_option maxHeartbeats 1000000 in
set_option maxRecDepth 100000 in
theorem GLoad_calls (gb mb hb n : Nat) (l W ws : List Int) (a : Option Addr) (cap : Nat) (hl : hosts n l) (hcap : ws.length ≤ cap) (w : World) (B : Nat) (X : List Asr) (hs : Words B gb mb hb n l X w a ws) (hH : Has w B (gstB gb mb hb :: GmapA mb l :: MemA hb n W :: X)) :
    Calls Try.prog 16 #[.pointer (some ⟨gb, 0, none⟩), .slice a ws.length cap] w fun e w' => e = .returned (.bool (decide (ws.length = l.length * 8))) ∧ Has w' B (gstB gb mb hb :: GmapA mb l :: MemA hb n (gLoad W n l ws) :: X) ∧ Below B w w' := by
  obtain ⟨_, ⟨_, hl1, hl2⟩, _⟩ := GmapA.open (hH.front [_] _)
  have hW := (MemA.fits (hH.front [_, _] _)).2.2
  have hsm := (hs w W hH (Below.refl _ _)).small
  have CF := hid (GFrames_calls gb mb hb l w B _ hH)
  by_cases hlen : ws.length = l.length * 8
  · have e1 : ((l.length : Int) * 8 != 8 * (l.length : Int)) = false := by simp; omega
    have er : gLoad W n l ws = gLoadK W n l ws l.length := by unfold gLoad; rw [if_pos hlen]
    rw [er, decide_eq_true hlen]
    have HW := hid hW
    have HLH := hid hl
    have HS := hid hs
    have HLEN := hid hlen
    have hcap8 : l.length * 8 ≤ cap := by omega
    rw [hlen]
    clear hW hl hs hlen er hsm hcap
    go_enter Try.func16, Try.ntmps16
    go_wp2_with fail
    refine CF.out.mono ?_
    rintro e w' ⟨rfl, rfl⟩
    have CF2 := hid CF.out
    clear CF
    go_wp2_with fail
    refine CF2.out.mono ?_
    rintro e w' ⟨rfl, rfl⟩
    clear CF2
    go_wp2_with fail
    go_loopw [17] (fun i wr => ∃ k : Nat, k ≤ l.length ∧ i = .int .i64 k ∧ Has wr B (gstB gb mb hb :: GmapA mb l :: MemA hb n (gLoadK W n l ws k) :: X) ∧ Below B w wr) (fun i _ => l.length - (intOf i).toNat)
    case atStart => exact ⟨0, by omega, rfl, hH, Below.refl _ _⟩
    case round =>
      obtain ⟨k, hk, rfl, hHr, hBr⟩ := hrel
      clear hH
      have c0 := Has.cell [] _ hHr 0 rfl
      have c1 := Has.cell [] _ hHr 1 rfl
      by_cases hlt : k < l.length
      · obtain ⟨f, hf⟩ : ∃ f, l[k]? = some f := ⟨_, List.getElem?_eq_getElem hlt⟩
        have hsr := HS.out wr _ hHr hBr
        obtain ⟨b, o, rfl, _, _⟩ := hsr.mem (by have := HLEN.out; omega)
        have hpart := hsr.part k (by have := HLEN.out; omega)
        have hl8 : ((ws.drop (k * 8)).take 8).length = 8 := by have := HLEN.out; simp; omega
        have hcut := cut8 b o (l.length * 8) cap k (by omega)
        have ch := Host_calls mb l k wr B _ (hHr.front [_] _)
        rw [hostR_yes ⟨by omega, by omega⟩, show l.getD (k : Int).toNat 0 = f from by simp [List.getD, hf]] at ch
        have CH := hid ch
        have hgd : gLoadK W n l ws (k + 1) = fillW (gLoadK W n l ws k) n f ((ws.drop (k * 8)).take 8) := by unfold gLoadK; rw [show l.getD k 0 = f from by simp [List.getD, hf]]; cases k <;> rfl
        have HGD := hid hgd
        have hHd := hHr.drew
        have hBd : Below B w wr.drew := hBr.drew
        have cf := Fill_calls hb n (gLoadK W n l ws k) f (some ⟨b, o + k * 8, none⟩) 8 ((ws.drop (k * 8)).take 8) wr.drew (hpart.later (Below.refl _ _).drew) B _ (hHd.front [_, _] _)
        rw [hl8] at cf
        have CFI := hid cf
        have hwr : IntKind.i64.wrap ((k : Int) * 8 + 8) = (k : Int) * 8 + 8 := IntWalk.i64_in _ (by omega)
        clear hf hsr hpart hl8 ch hgd cf
        go_wp2_with fail
        refine CH.out.mono ?_
        rintro e w' ⟨rfl, rfl⟩
        go_wp2_with fail
        go_still_tail 12, (by kernel_rfl)
        change wpList _ _ _ _ _ (wr.drew)
        clear hwr
        go_wp2_with (go_at_call 36; refine CFI.out.mono ?_; rintro e w9 ⟨rfl, hH9, hB9⟩)
        go_roundw
        case rel => exact ⟨k + 1, by omega, by go_num, by rw [HGD.out]; exact Has.back [_, _] _ hH9, hBd.trans hB9⟩
        case measure => simp [intOf] <;> omega
      · obtain rfl : k = l.length := by omega
        go_wp2_with fail
        go_ret
        exact ⟨rfl, hHr, hBr⟩
  · have e1 : ((ws.length : Int) != 8 * (l.length : Int)) = true := by simp; omega
    have er : gLoad W n l ws = W := by unfold gLoad; rw [if_neg hlen]
    rw [er, decide_eq_false hlen]
    clear hW hl hs hlen er
    go_enter Try.func16, Try.ntmps16
    go_wp2_with fail
    refine CF.out.mono ?_
    rintro e w' ⟨rfl, rfl⟩
    go_wp2_with fail
    go_ret
    exact ⟨rfl, hH, Below.refl _ _⟩

end Go.Proofs.Ytlkjccchlmhchaa
