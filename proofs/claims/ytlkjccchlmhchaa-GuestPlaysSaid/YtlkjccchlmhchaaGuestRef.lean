/-
  The document's answer to layer 7: a guest's memory.
-/
import Derived.Test.YtlkjccchlmhchaaGuestB
import Derived.Test.YtlkjccchlmhchaaFrameRef
import Derived.Test.YtlkjccchlmhchaaGmapRef
namespace Go.Proofs.Ytlkjccchlmhchaa
open Go.RowKit
set_option linter.unusedVariables false
set_option linter.unusedSimpArgs false

/-- Its block. -/
def rstB (gb mb hb : Nat) : Asr := blk gb 74 #[.pointer (some ⟨hb, 0, none⟩), .pointer (some ⟨mb, 0, none⟩)]

theorem RMemA.fits {b n : Nat} {W : List Int} {w : World} {B : Nat} {X : List Asr} (hH : Has w B (RMemA b n W :: X)) : 1 ≤ n ∧ n ≤ 256 ∧ W.length = n * 8 := (RMemA.open hH).choose_spec.1

theorem RGuestNew_calls (mb hb : Nat) (w : World) (B : Nat) (X : List Asr) (hH : Has w B X) :
    Calls Try.prog 22 #[.pointer (some ⟨hb, 0, none⟩), .pointer (some ⟨mb, 0, none⟩)] w fun e w' => ∃ gb, e = .returned (.pointer (some ⟨gb, 0, none⟩)) ∧ Has w' B (rstB gb mb hb :: X) ∧ Below B w w' := by
  go_enter Try.func22, Try.ntmps22
  go_wp2_with fail
  go_ret
  exact ⟨w.heap.size, rfl, hH.newblk w.heap.size 74 _ rfl, below_new (Below.refl _ _) hH _⟩

theorem RGFrames_calls (gb mb hb : Nat) (l : List Int) (w : World) (B : Nat) (X : List Asr) (hH : Has w B (rstB gb mb hb :: RmapA mb l :: X)) :
    Calls Try.prog 31 #[.pointer (some ⟨gb, 0, none⟩)] w fun e w' => e = .returned (.int .i64 l.length) ∧ w = w' := by
  have c0 := Has.cell [] _ hH 1 rfl
  have cm := RMany_calls mb l w B _ (hH.front [_] _)
  have CM := hid cm
  clear hH cm
  go_enter Try.func31, Try.ntmps31
  go_wp2_with fail
  refine CM.out.mono ?_
  rintro e w' ⟨rfl, rfl⟩
  go_wp2_with fail
  go_ret
  exact ⟨rfl, rfl⟩

theorem RGGet_calls (gb mb hb n : Nat) (l W : List Int) (g i : Int) (w : World) (B : Nat) (X : List Asr) (h1 : 1 ≤ l.length) (h2 : l.length ≤ 64) (hH : Has w B (rstB gb mb hb :: RmapA mb l :: RMemA hb n W :: X)) :
    Calls Try.prog 24 #[.pointer (some ⟨gb, 0, none⟩), .int .i64 g, .int .i64 i] w fun e w' => e = .returned (gGet W n l g i) ∧ w = w' := by
  have c0 := Has.cell [] _ hH 0 rfl
  have c1 := Has.cell [] _ hH 1 rfl
  have cm := RHost_calls mb l g w B _ (hH.front [_] _) h1 h2
  by_cases hg : 0 ≤ g ∧ g < l.length
  · rw [hostR_yes hg] at cm
    have er : gGet W n l g i = getR W n (l.getD g.toNat 0) i := by unfold gGet; rw [if_pos hg]
    rw [er]
    have cg := RGet_calls hb n W (l.getD g.toNat 0) i w B _ (hH.front [_, _] _)
    generalize l.getD g.toNat 0 = f at *
    obtain ⟨v, b, hv⟩ := getR_pair W n f i
    rw [hv] at cg ⊢
    have CM := hid cm
    have CG := hid cg
    clear hH cm cg er hg hv
    go_enter Try.func24, Try.ntmps24
    go_wp2_with fail
    refine CM.out.mono ?_
    rintro e w' ⟨rfl, rfl⟩
    go_wp2_with fail
    refine CG.out.mono ?_
    rintro e w' ⟨rfl, rfl⟩
    go_wp2_with fail
    go_ret2
    exact ⟨rfl, rfl⟩
  · rw [hostR_no hg] at cm
    have er : gGet W n l g i = .tuple #[.int .u64 0, .bool false] := by unfold gGet; rw [if_neg hg]
    rw [er]
    have CM := hid cm
    clear hH cm er hg
    go_enter Try.func24, Try.ntmps24
    go_wp2_with fail
    refine CM.out.mono ?_
    rintro e w' ⟨rfl, rfl⟩
    go_wp2_with fail
    go_ret2
    exact ⟨rfl, rfl⟩

theorem RGSet_calls (gb mb hb n : Nat) (l W : List Int) (g i v : Int) (w : World) (B : Nat) (X : List Asr) (h1 : 1 ≤ l.length) (h2 : l.length ≤ 64) (hH : Has w B (rstB gb mb hb :: RmapA mb l :: RMemA hb n W :: X)) :
    Calls Try.prog 27 #[.pointer (some ⟨gb, 0, none⟩), .int .i64 g, .int .i64 i, .int .u64 v] w fun e w' => e = .returned (.bool (gCan n l g i)) ∧ Has w' B (rstB gb mb hb :: RmapA mb l :: RMemA hb n (gSet W n l g i v) :: X) ∧ Below B w w' := by
  have c0 := Has.cell [] _ hH 0 rfl
  have c1 := Has.cell [] _ hH 1 rfl
  have cm := RHost_calls mb l g w B _ (hH.front [_] _) h1 h2
  by_cases hg : 0 ≤ g ∧ g < l.length
  · rw [hostR_yes hg] at cm
    have er : gSet W n l g i v = setW W n (l.getD g.toNat 0) i v := by unfold gSet; rw [if_pos hg]
    have ec : gCan n l g i = decide (wok n (l.getD g.toNat 0) i) := by unfold gCan; simp [hg]
    rw [er, ec]
    have cg := RSet_calls hb n W (l.getD g.toNat 0) i v w B _ (hH.front [_, _] _)
    generalize l.getD g.toNat 0 = f at *
    generalize decide (wok n f i) = b at *
    have CM := hid cm
    have CG := hid cg
    clear hH cm cg er hg ec
    go_enter Try.func27, Try.ntmps27
    go_wp2_with fail
    refine CM.out.mono ?_
    rintro e w' ⟨rfl, rfl⟩
    go_wp2_with fail
    refine CG.out.mono ?_
    rintro e w' ⟨rfl, hH2, hB2⟩
    cases b
    all_goals (
      go_wp2_with fail
      go_ret
      exact ⟨rfl, Has.back [_, _] _ hH2, hB2⟩)
  · rw [hostR_no hg] at cm
    have er : gSet W n l g i v = W := by unfold gSet; rw [if_neg hg]
    have ec : gCan n l g i = false := by unfold gCan; rw [decide_eq_false_iff_not]; exact fun h => hg ⟨h.1, h.2.1⟩
    rw [er, ec]
    have CM := hid cm
    clear cm er hg ec
    go_enter Try.func27, Try.ntmps27
    go_wp2_with fail
    refine CM.out.mono ?_
    rintro e w' ⟨rfl, rfl⟩
    go_wp2_with fail
    go_ret
    exact ⟨rfl, hH, Below.refl _ _⟩

set_option maxHeartbeats 1000000 in
set_option maxRecDepth 100000 in
theorem RGAll_calls (gb mb hb n : Nat) (l W : List Int) (hl : hosts n l) (hl1 : 1 ≤ l.length) (hl2 : l.length ≤ 64) (w : World) (B : Nat) (X : List Asr) (hH : Has w B (rstB gb mb hb :: RmapA mb l :: RMemA hb n W :: X)) :
    Calls Try.prog 28 #[.pointer (some ⟨gb, 0, none⟩)] w fun e w' => ∃ v, e = .returned v ∧ Has w' B (row 33 1 v (l.length * 8) (u64s (gAll W n l)) :: rstB gb mb hb :: RmapA mb l :: RMemA hb n W :: X) ∧ Below B w w' := by
  obtain ⟨i0, hi, hz0, hz1, hz2⟩ := info_parts infoU64
  have hW := (RMemA.fits (hH.front [_, _] _)).2.2
  have HLH := hid hl
  have HW := hid hW
  have hlen := gAll_length hW hl
  have CF := hid (RGFrames_calls gb mb hb l w B _ hH)
  have HLEN := hid hlen
  clear hl hW hlen
  go_enter Try.func28, Try.ntmps28
  have hR := hH.nilrow 33 1
  go_wp2_with fail
  go_loopg [3, 4] l.length (fun gh out i wr => ∃ (k : Nat) (v : Value), gh + k = l.length ∧ i = .int .i64 k ∧ out = v ∧ Has wr B (row 33 1 v (k * 8) (u64s ((gAll W n l).take (k * 8))) :: rstB gb mb hb :: RmapA mb l :: RMemA hb n W :: X) ∧ Below B w wr)
  case atStart => exact ⟨0, _, by omega, rfl, rfl, by simpa [u64s] using hR, Below.refl _ _⟩
  case round =>
    obtain ⟨gr, rfl⟩ : ∃ gr, gr = gk := ⟨gk, rfl⟩
    obtain ⟨k, v, hk, rfl, rfl, hHr, hBr⟩ := hrel
    have HK := hid hk
    clear hR hk hH CF
    have CF := hid (RGFrames_calls gb mb hb l wr B _ hHr.drop)
    by_cases hlt : k < l.length
    · go_wp2_with fail
      refine CF.out.mono ?_
      rintro e w' ⟨rfl, rfl⟩
      clear CF
      go_wp2_with fail
      go_loopg [3, 5] 8 (fun gh out i wr => ∃ (j : Nat) (v : Value), gh + j = 8 ∧ i = .int .i64 j ∧ out = v ∧ Has wr B (row 33 1 v (k * 8 + j) (u64s ((gAll W n l).take (k * 8 + j))) :: rstB gb mb hb :: RmapA mb l :: RMemA hb n W :: X) ∧ Below B w wr)
      case atStart => exact ⟨0, _, by omega, rfl, rfl, hHr, hBr⟩
      case round =>
        obtain ⟨gj, rfl⟩ : ∃ gj, gj = gk := ⟨gk, rfl⟩
        obtain ⟨j, v2, hj, rfl, rfl, hHj, hBj⟩ := hrel
        have HJ := hid hj
        clear hHr hBr hj
        obtain ⟨ao, cp, rfl, _, _, _⟩ := hHj.row_form [] _
        by_cases hj8 : j < 8
        · obtain ⟨f, x, hf, hf0, hfn, hx, hgx⟩ := gGet_at HW.out HLH.out hlt hj8
          have hts := gAll_take_succ HW.out HLH.out hf hj8 hx
          have HTS := hid hts
          have cg := RGGet_calls gb mb hb n l W k j wr B _ hl1 hl2 hHj.drop
          rw [hgx] at cg
          have CG := hid cg
          clear hts cg hf hx hgx hf0 hfn
          go_wp2_with fail
          refine CG.out.mono ?_
          rintro e w' ⟨rfl, rfl⟩
          go_wp2_with (at_builtin; refine wpList_append_row [] _ (hHj.alloc _) rfl _ _ 34 rfl i0 (.int .u64 0) 8 Try.underlying34 hi hz0 hz1 hz2 rfl (by decide) rfl ⟨wr.heap.size, 0, none⟩ 1 1 [.int .u64 x] rfl rfl (cell_one_new _ _ _) (by simp [Value.oneCell']) (by decide) (by unfold maxLen; omega) (by omega) ?_; intro g2 cap2 w2 hH2 hB2)
          go_roundg (gj - 1)
          case measure => have := HJ.out; omega
          case rel => exact ⟨j + 1, _, by have := HJ.out; omega, by go_num, rfl, by rw [show k * 8 + (j + 1) = k * 8 + j + 1 from rfl, HTS.out]; simpa [u64s] using hH2, hBj.trans ((below_new (Below.refl _ _) hHj _).trans hB2)⟩
        · obtain rfl : j = 8 := by have := HJ.out; omega
          go_wp2_with fail
          go_roundg (gr - 1)
          case measure => have := HK.out; omega
          case rel => exact ⟨k + 1, _, by have := HK.out; omega, by go_num, rfl, by rw [show (k + 1) * 8 = k * 8 + 8 from by omega]; exact hHj, hBj⟩
    · obtain rfl : k = l.length := by have := HK.out; omega
      rw [List.take_of_length_le (by rw [HLEN.out]; omega)] at hHr
      go_wp2_with fail
      refine CF.out.mono ?_
      rintro e w' ⟨rfl, rfl⟩
      clear CF
      go_wp2_with fail
      go_ret
      exact ⟨_, rfl, hHr, hBr⟩

/-- The words of a frame, set one behind the other. -/
def setsK (W : List Int) (n : Nat) (f : Int) (ws : List Int) : Nat → List Int
  | 0 => W
  | j + 1 => setW (setsK W n f ws j) n f j (ws.getD j 0)
theorem setsK_length (W : List Int) (n : Nat) (f : Int) (ws : List Int) (j : Nat) : (setsK W n f ws j).length = W.length := by
  induction j with
  | zero => rfl
  | succ j ih => unfold setsK; rw [setW_length]; exact ih
theorem setsK_get {W : List Int} {n p : Nat} (hW : W.length = n * 8) (hp : p < n) (ws : List Int) (hws : ws.length = 8) (j : Nat) (hj : j ≤ 8) (i : Nat) :
    (setsK W n p ws j)[i]? = if p * 8 ≤ i ∧ i < p * 8 + j then ws[i - p * 8]? else W[i]? := by
  induction j with
  | zero => rw [if_neg (by omega)]; rfl
  | succ j ih =>
    have hw : wok n p j := ⟨by omega, by omega, by omega, by omega⟩
    unfold setsK setW
    have e0 : wat (p : Int) (j : Int) = p * 8 + j := by simp [wat]
    rw [if_pos hw, e0, List.getElem?_set, setsK_length]
    by_cases e : p * 8 + j = i
    · rw [if_pos e, if_pos (by omega), if_pos (by omega)]
      rw [show i - p * 8 = j from by omega, List.getD, List.getElem?_eq_getElem (show j < ws.length by omega)]
      rfl
    · rw [if_neg e, ih (by omega)]
      by_cases h : p * 8 ≤ i ∧ i < p * 8 + j
      · rw [if_pos h, if_pos (by omega)]
      · rw [if_neg h, if_neg (by omega)]
theorem setsK_fill {W : List Int} {n : Nat} {f : Int} (hW : W.length = n * 8) (hf : 0 ≤ f ∧ f < n) (ws : List Int) (hws : ws.length = 8) : setsK W n f ws 8 = fillW W n f ws := by
  obtain ⟨p, rfl⟩ := Int.eq_ofNat_of_zero_le hf.1
  have hp : p < n := by omega
  unfold fillW
  rw [if_pos ⟨hf.1, hf.2, hws⟩]
  simp only [Int.toNat_natCast]
  refine List.ext_getElem? fun i => ?_
  rw [setsK_get hW hp ws hws 8 (by omega)]
  by_cases h1 : i < p * 8
  · rw [if_neg (by omega), List.append_assoc, List.getElem?_append_left (by simp; omega), List.getElem?_take_of_lt h1]
  · by_cases h2 : i < p * 8 + 8
    · rw [if_pos ⟨by omega, h2⟩, List.append_assoc, List.getElem?_append_right (by simp; omega), List.getElem?_append_left (by simp; omega)]
      simp
      congr 1
      omega
    · rw [if_neg (by omega), List.getElem?_append_right (by simp; omega), List.getElem?_drop]
      congr 1
      simp
      omega

/-- The words to be loaded are there, whatever the document's guest's are. -/
def RWords (B gb mb hb n : Nat) (l : List Int) (X : List Asr) (w : World) (a : Option Addr) (ws : List Int) : Prop :=
  ∀ w' W', Has w' B (rstB gb mb hb :: RmapA mb l :: RMemA hb n W' :: X) → Below B w w' → SrcU w' a ws

set_option maxHeartbeats 1000000 in
set_option maxRecDepth 100000 in
theorem RGLoad_calls (gb mb hb n : Nat) (l W ws : List Int) (a : Option Addr) (cap : Nat) (hl : hosts n l) (hl1 : 1 ≤ l.length) (hl2 : l.length ≤ 64) (w : World) (B : Nat) (X : List Asr) (hs : RWords B gb mb hb n l X w a ws) (hH : Has w B (rstB gb mb hb :: RmapA mb l :: RMemA hb n W :: X)) (hW : W.length = n * 8) :
    Calls Try.prog 23 #[.pointer (some ⟨gb, 0, none⟩), .slice a ws.length cap] w fun e w' => e = .returned (.bool (decide (ws.length = l.length * 8))) ∧ Has w' B (rstB gb mb hb :: RmapA mb l :: RMemA hb n (gLoad W n l ws) :: X) ∧ Below B w w' := by
  have hsm := (hs w W hH (Below.refl _ _)).small
  have CF := hid (RGFrames_calls gb mb hb l w B _ hH)
  by_cases hlen : ws.length = l.length * 8
  · have e1 : ((l.length : Int) * 8 != 8 * (l.length : Int)) = false := by simp; omega
    have er : gLoad W n l ws = gLoadK W n l ws l.length := by unfold gLoad; rw [if_pos hlen]
    rw [er, decide_eq_true hlen]
    have HW := hid hW
    have HLH := hid hl
    have HS := hid hs
    have HLEN := hid hlen
    rw [hlen]
    clear hW hl hs hlen er hsm
    go_enter Try.func23, Try.ntmps23
    go_wp2_with fail
    refine CF.out.mono ?_
    rintro e w' ⟨rfl, rfl⟩
    clear CF
    go_wp2_with fail
    go_loopg [5] l.length (fun gh i wr => ∃ k : Nat, gh + k = l.length ∧ i = .int .i64 k ∧ Has wr B (rstB gb mb hb :: RmapA mb l :: RMemA hb n (gLoadK W n l ws k) :: X) ∧ Below B w wr)
    case atStart => exact ⟨0, by omega, rfl, hH, Below.refl _ _⟩
    case round =>
      obtain ⟨gr, rfl⟩ : ∃ gr, gr = gk := ⟨gk, rfl⟩
      obtain ⟨k, hk, rfl, hHr, hBr⟩ := hrel
      have HK := hid hk
      clear hH hk
      have CF := hid (RGFrames_calls gb mb hb l wr B _ hHr)
      by_cases hlt : k < l.length
      · obtain ⟨f, hf⟩ : ∃ f, l[k]? = some f := ⟨_, List.getElem?_eq_getElem hlt⟩
        have hfn := HLH.out f (List.mem_of_getElem? hf)
        have hl8 : ((ws.drop (k * 8)).take 8).length = 8 := by have := HLEN.out; simp; omega
        have HGD : Hid (gLoadK W n l ws (k + 1) = setsK (gLoadK W n l ws k) n f ((ws.drop (k * 8)).take 8) 8) := hid (by
          rw [setsK_fill (by rw [gLoadK_length HW.out]; exact HW.out) hfn _ hl8]
          show fillW _ _ _ _ = _
          rw [show l.getD k 0 = f from by simp [List.getD, hf]])
        have HF := hid hf
        clear hf hfn hl8
        go_wp2_with fail
        refine CF.out.mono ?_
        rintro e w' ⟨rfl, rfl⟩
        clear CF
        go_wp2_with fail
        go_loopg [6] 8 (fun gh i wr => ∃ j : Nat, gh + j = 8 ∧ i = .int .i64 j ∧ Has wr B (rstB gb mb hb :: RmapA mb l :: RMemA hb n (setsK (gLoadK W n l ws k) n f ((ws.drop (k * 8)).take 8) j) :: X) ∧ Below B w wr)
        case atStart => exact ⟨0, by omega, rfl, hHr, hBr⟩
        case round =>
          obtain ⟨gj, rfl⟩ : ∃ gj, gj = gk := ⟨gk, rfl⟩
          obtain ⟨j, hj, rfl, hHj, hBj⟩ := hrel
          have HJ := hid hj
          clear hHr hBr hj
          by_cases hj8 : j < 8
          · obtain ⟨x, hx⟩ : ∃ x, ws[k * 8 + j]? = some x := ⟨_, List.getElem?_eq_getElem (by have := HLEN.out; omega)⟩
            have hsr := HS.out wr _ hHj hBj
            obtain ⟨b, o, rfl, _, _⟩ := hsr.mem (by have := HLEN.out; omega)
            have cx := hsr.at rfl hx
            have cx2 : wr.cell? ⟨b, o + (8 * k + j), none⟩ = some (.int .u64 x) := by rw [Nat.mul_comm 8 k]; exact cx
            have cs := RGSet_calls gb mb hb n l (setsK (gLoadK W n l ws k) n f ((ws.drop (k * 8)).take 8) j) k j x wr B _ hl1 hl2 hHj
            have es : gSet (setsK (gLoadK W n l ws k) n f ((ws.drop (k * 8)).take 8) j) n l k j x = setsK (gLoadK W n l ws k) n f ((ws.drop (k * 8)).take 8) (j + 1) := by
              unfold gSet
              rw [if_pos ⟨by omega, by omega⟩]
              have e1 : l.getD (k : Int).toNat 0 = f := by simp [List.getD, HF.out]
              have e2 : ((ws.drop (k * 8)).take 8).getD j 0 = x := by simp [List.getD, List.getElem?_take_of_lt hj8, hx]
              rw [e1]
              show _ = setW _ n f j _
              rw [e2]
            rw [es] at cs
            have CS := hid cs
            have b1 : k * 8 + j < l.length * 8 := by omega
            have b2 : 8 * k + j < l.length * 8 := by omega
            have b3 : (8 : Int) * k + j < (l.length : Int) * 8 := by omega
            clear hx hsr cs es
            go_wp2_with fail
            refine CS.out.mono ?_
            rintro e w6 ⟨rfl, hH6, hB6⟩
            go_wp2_with fail
            go_roundg (gj - 1)
            case measure => have := HJ.out; omega
            case rel => exact ⟨j + 1, by have := HJ.out; omega, by go_num, hH6, hBj.trans hB6⟩
          · obtain rfl : j = 8 := by have := HJ.out; omega
            go_wp2_with fail
            go_roundg (gr - 1)
            case measure => have := HK.out; omega
            case rel => exact ⟨k + 1, by have := HK.out; omega, by go_num, by rw [HGD.out]; exact hHj, hBj⟩
      · obtain rfl : k = l.length := by have := HK.out; omega
        go_wp2_with fail
        refine CF.out.mono ?_
        rintro e w' ⟨rfl, rfl⟩
        go_wp2_with fail
        go_ret
        exact ⟨rfl, hHr, hBr⟩
  · have e1 : ((ws.length : Int) != 8 * (l.length : Int)) = true := by simp; omega
    have er : gLoad W n l ws = W := by unfold gLoad; rw [if_neg hlen]
    rw [er, decide_eq_false hlen]
    clear hW hl hs hlen er
    go_enter Try.func23, Try.ntmps23
    go_wp2_with fail
    refine CF.out.mono ?_
    rintro e w' ⟨rfl, rfl⟩
    go_wp2_with fail
    go_ret
    exact ⟨rfl, hH, Below.refl _ _⟩

end Go.Proofs.Ytlkjccchlmhchaa
