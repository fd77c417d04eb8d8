/-
  Contracts of package guest (layer 7): a guest's memory, that lies in a host's.
-/
import Derived.Test.YtlkjccchlmhchaaFrameHead
import Derived.Test.YtlkjccchlmhchaaGmapB
import Derived.IntWalk
import Derived.StillTailTactics
import Derived.Deep.DeepCutAuto
namespace Go.Proofs.Ytlkjccchlmhchaa
open Go.RowKit
set_option linter.unusedVariables false
set_option linter.unusedSimpArgs false

/-- Each of a map is a frame of the host. -/
def hosts (n : Nat) (l : List Int) : Prop := ∀ h ∈ l, 0 ≤ h ∧ h < n
/-- What Get answers. -/
def gGet (W : List Int) (n : Nat) (l : List Int) (g i : Int) : Value := if 0 ≤ g ∧ g < l.length then getR W n (l.getD g.toNat 0) i else .tuple #[.int .u64 0, .bool false]
def gSet (W : List Int) (n : Nat) (l : List Int) (g i v : Int) : List Int := if 0 ≤ g ∧ g < l.length then setW W n (l.getD g.toNat 0) i v else W
def gCan (n : Nat) (l : List Int) (g i : Int) : Bool := decide (0 ≤ g ∧ g < l.length ∧ wok n (l.getD g.toNat 0) i)
/-- All words of a guest. -/
def gAll (W : List Int) (n : Nat) (l : List Int) : List Int := l.flatMap fun f => frameW W n f
/-- .. behind the first k frames of a Load. -/
def gLoadK (W : List Int) (n : Nat) (l ws : List Int) : Nat → List Int
  | 0 => W
  | k + 1 => fillW (gLoadK W n l ws k) n (l.getD k 0) ((ws.drop (k * 8)).take 8)
def gLoad (W : List Int) (n : Nat) (l ws : List Int) : List Int := if ws.length = l.length * 8 then gLoadK W n l ws l.length else W
theorem setW_length (W : List Int) (n : Nat) (f i v : Int) : (setW W n f i v).length = W.length := by
  unfold setW; split <;> simp
theorem gSet_length (W : List Int) (n : Nat) (l : List Int) (g i v : Int) : (gSet W n l g i v).length = W.length := by
  unfold gSet; split
  · exact setW_length ..
  · rfl
theorem fillW_length {W : List Int} {n : Nat} (hW : W.length = n * 8) (f : Int) (ws : List Int) : (fillW W n f ws).length = W.length := by
  unfold fillW
  split
  · rename_i h
    simp
    omega
  · rfl
theorem gLoadK_length {W : List Int} {n : Nat} (hW : W.length = n * 8) (l ws : List Int) (k : Nat) : (gLoadK W n l ws k).length = W.length := by
  induction k with
  | zero => rfl
  | succ k ih => unfold gLoadK; rw [fillW_length (by omega)]; exact ih
theorem gLoad_length {W : List Int} {n : Nat} (hW : W.length = n * 8) (l ws : List Int) : (gLoad W n l ws).length = W.length := by
  unfold gLoad
  split
  · exact gLoadK_length hW ..
  · rfl
theorem gAll_length {W : List Int} {n : Nat} (hW : W.length = n * 8) {l : List Int} (hl : hosts n l) : (gAll W n l).length = l.length * 8 := by
  unfold gAll
  induction l with
  | nil => rfl
  | cons f l ih =>
    rw [List.flatMap_cons, List.length_append, frameW_length hW (hl f (by simp)), ih (fun h hh => hl h (by simp [hh])), List.length_cons]
    omega
/-- A word of it. -/
theorem gAll_get {W : List Int} {n : Nat} (hW : W.length = n * 8) {l : List Int} (hl : hosts n l) {k j : Nat} {f : Int} (hk : l[k]? = some f) (hj : j < 8) : (gAll W n l)[k * 8 + j]? = W[f.toNat * 8 + j]? := by
  unfold gAll
  induction l generalizing k with
  | nil => simp at hk
  | cons x l ih =>
    have hx := hl x (by simp)
    rw [List.flatMap_cons]
    cases k with
    | zero =>
      simp at hk
      subst hk
      rw [List.getElem?_append_left (by rw [frameW_length hW hx]; omega)]
      unfold frameW
      rw [if_pos hx, Nat.zero_mul, Nat.zero_add, List.getElem?_take_of_lt hj, List.getElem?_drop]
    | succ k =>
      rw [List.getElem?_append_right (by rw [frameW_length hW hx]; omega), frameW_length hW hx, show (k + 1) * 8 + j - 8 = k * 8 + j from by omega]
      exact ih (fun h hh => hl h (by simp [hh])) (by simpa using hk)
theorem gAll_take_succ {W : List Int} {n : Nat} (hW : W.length = n * 8) {l : List Int} (hl : hosts n l) {k j : Nat} {f x : Int} (hk : l[k]? = some f) (hj : j < 8) (hx : W[f.toNat * 8 + j]? = some x) : (gAll W n l).take (k * 8 + j + 1) = (gAll W n l).take (k * 8 + j) ++ [x] := by
  rw [List.take_add_one, gAll_get hW hl hk hj, hx]
  rfl
theorem gGet_at {W : List Int} {n : Nat} (hW : W.length = n * 8) {l : List Int} (hl : hosts n l) {k j : Nat} (hk : k < l.length) (hj : j < 8) : ∃ f x, l[k]? = some f ∧ 0 ≤ f ∧ f < n ∧ W[f.toNat * 8 + j]? = some x ∧ gGet W n l k j = .tuple #[.int .u64 x, .bool true] := by
  obtain ⟨f, hf⟩ : ∃ f, l[k]? = some f := ⟨_, List.getElem?_eq_getElem hk⟩
  have hfn := hl f (List.mem_of_getElem? hf)
  obtain ⟨p, rfl⟩ := Int.eq_ofNat_of_zero_le hfn.1
  obtain ⟨x, hx⟩ : ∃ x, W[p * 8 + j]? = some x := ⟨_, List.getElem?_eq_getElem (by omega)⟩
  refine ⟨p, x, hf, hfn.1, hfn.2, by simpa using hx, ?_⟩
  have hw : wok n p j := ⟨by omega, by omega, by omega, by omega⟩
  unfold gGet
  rw [if_pos ⟨by omega, by omega⟩]
  simp [List.getD, hf, getR, hw, wat, hx]

/-- Its block. -/
def gstB (gb mb hb : Nat) : Asr := blk gb 67 #[.pointer (some ⟨mb, 0, none⟩), .pointer (some ⟨hb, 0, none⟩)]

theorem GuestNew_calls (mb hb : Nat) (w : World) (B : Nat) (X : List Asr) (hH : Has w B X) :
    Calls Try.prog 13 #[.pointer (some ⟨hb, 0, none⟩), .pointer (some ⟨mb, 0, none⟩)] w fun e w' => ∃ gb, e = .returned (.pointer (some ⟨gb, 0, none⟩)) ∧ Has w' B (gstB gb mb hb :: X) ∧ Below B w w' := by
  go_enter Try.func13, Try.ntmps13
  go_wp2_with fail
  go_ret
  exact ⟨w.heap.size, rfl, hH.newblk w.heap.size 67 _ rfl, below_new (Below.refl _ _) hH _⟩

theorem GFrames_calls (gb mb hb : Nat) (l : List Int) (w : World) (B : Nat) (X : List Asr) (hH : Has w B (gstB gb mb hb :: GmapA mb l :: X)) :
    Calls Try.prog 19 #[.pointer (some ⟨gb, 0, none⟩)] w fun e w' => e = .returned (.int .i64 l.length) ∧ w = w' := by
  have c0 := Has.cell [] _ hH 0 rfl
  have cm := Many_calls mb l w B _ (hH.front [_] _)
  have CM := hid cm
  clear hH cm
  go_enter Try.func19, Try.ntmps19
  go_wp2_with fail
  refine CM.out.mono ?_
  rintro e w' ⟨rfl, rfl⟩
  go_wp2_with fail
  go_ret
  exact ⟨rfl, rfl⟩

theorem hostR_yes {l : List Int} {g : Int} (h : 0 ≤ g ∧ g < l.length) : hostR l g = .tuple #[.int .i64 (l.getD g.toNat 0), .bool true] := by
  unfold hostR; rw [if_pos h, decide_eq_true h]
theorem hostR_no {l : List Int} {g : Int} (h : ¬ (0 ≤ g ∧ g < l.length)) : hostR l g = .tuple #[.int .i64 0, .bool false] := by
  unfold hostR; rw [if_neg h, decide_eq_false h]
theorem getR_pair (W : List Int) (n : Nat) (f i : Int) : ∃ v b, getR W n f i = .tuple #[.int .u64 v, .bool b] := ⟨_, _, rfl⟩

theorem GGet_calls (gb mb hb n : Nat) (l W : List Int) (g i : Int) (w : World) (B : Nat) (X : List Asr) (hH : Has w B (gstB gb mb hb :: GmapA mb l :: MemA hb n W :: X)) :
    Calls Try.prog 18 #[.pointer (some ⟨gb, 0, none⟩), .int .i64 g, .int .i64 i] w fun e w' => e = .returned (gGet W n l g i) ∧ w = w' := by
  have c0 := Has.cell [] _ hH 0 rfl
  have c1 := Has.cell [] _ hH 1 rfl
  have cm := Host_calls mb l g w B _ (hH.front [_] _)
  by_cases hg : 0 ≤ g ∧ g < l.length
  · rw [hostR_yes hg] at cm
    have er : gGet W n l g i = getR W n (l.getD g.toNat 0) i := by unfold gGet; rw [if_pos hg]
    rw [er]
    have cg := Get_calls hb n W (l.getD g.toNat 0) i w B _ (hH.front [_, _] _)
    generalize l.getD g.toNat 0 = f at *
    obtain ⟨v, b, hv⟩ := getR_pair W n f i
    rw [hv] at cg ⊢
    have CM := hid cm
    have CG := hid cg
    clear hH cm cg er hg hv
    go_enter Try.func18, Try.ntmps18
    go_wp2_with fail
    refine CM.out.mono ?_
    rintro e w' ⟨rfl, rfl⟩
    go_wp2_with fail
    refine CG.out.mono ?_
    rintro e w' ⟨rfl, rfl⟩
    go_wp2_with fail
    go_ret2
    exact ⟨rfl, rfl⟩
  · rw [hostR_no hg] at cm
    have er : gGet W n l g i = .tuple #[.int .u64 0, .bool false] := by unfold gGet; rw [if_neg hg]
    rw [er]
    have CM := hid cm
    clear hH cm er hg
    go_enter Try.func18, Try.ntmps18
    go_wp2_with fail
    refine CM.out.mono ?_
    rintro e w' ⟨rfl, rfl⟩
    go_wp2_with fail
    go_ret2
    exact ⟨rfl, rfl⟩

theorem GSet_calls (gb mb hb n : Nat) (l W : List Int) (g i v : Int) (w : World) (B : Nat) (X : List Asr) (hH : Has w B (gstB gb mb hb :: GmapA mb l :: MemA hb n W :: X)) :
    Calls Try.prog 14 #[.pointer (some ⟨gb, 0, none⟩), .int .i64 g, .int .i64 i, .int .u64 v] w fun e w' => e = .returned (.bool (gCan n l g i)) ∧ Has w' B (gstB gb mb hb :: GmapA mb l :: MemA hb n (gSet W n l g i v) :: X) ∧ Below B w w' := by
  have c0 := Has.cell [] _ hH 0 rfl
  have c1 := Has.cell [] _ hH 1 rfl
  have cm := Host_calls mb l g w B _ (hH.front [_] _)
  by_cases hg : 0 ≤ g ∧ g < l.length
  · rw [hostR_yes hg] at cm
    have er : gSet W n l g i v = setW W n (l.getD g.toNat 0) i v := by unfold gSet; rw [if_pos hg]
    have ec : gCan n l g i = decide (wok n (l.getD g.toNat 0) i) := by unfold gCan; simp [hg]
    rw [er, ec]
    have cg := Set_calls hb n W (l.getD g.toNat 0) i v w B _ (hH.front [_, _] _)
    generalize l.getD g.toNat 0 = f at *
    generalize decide (wok n f i) = b at *
    have CM := hid cm
    have CG := hid cg
    clear hH cm cg er hg ec
    go_enter Try.func14, Try.ntmps14
    go_wp2_with fail
    refine CM.out.mono ?_
    rintro e w' ⟨rfl, rfl⟩
    go_wp2_with fail
    refine CG.out.mono ?_
    rintro e w' ⟨rfl, hH2, hB2⟩
    cases b
    all_goals (
      go_wp2_with fail
      go_ret
      exact ⟨rfl, Has.back [_, _] _ hH2, hB2⟩)
  · rw [hostR_no hg] at cm
    have er : gSet W n l g i v = W := by unfold gSet; rw [if_neg hg]
    have ec : gCan n l g i = false := by unfold gCan; rw [decide_eq_false_iff_not]; exact fun h => hg ⟨h.1, h.2.1⟩
    rw [er, ec]
    have CM := hid cm
    clear cm er hg ec
    go_enter Try.func14, Try.ntmps14
    go_wp2_with fail
    refine CM.out.mono ?_
    rintro e w' ⟨rfl, rfl⟩
    go_wp2_with fail
    go_ret
    exact ⟨rfl, hH, Below.refl _ _⟩

/-- 'make([]T, 0, n)'. -/
theorem wpList_make_room {P : Program} {T : TypeId} {w : World} {B n size : Nat} {ops : Array Oper} {rest : List Oper} {o : Oper} {a : Act} {Q : Exit → Act → World → Prop} {L : List Asr} (hH : Has w B L) (hg : o.guard = none) (lo co : Operand) (t : TypeId) (hop : o.op = Op.makeSlice t lo co)
    (i : TypeInfo) (z : Value) (bytes : Nat) (h1 : P.underlying t = some (.slice T)) (h2 : P.info? T = some i) (h3 : i.zero = some z) (h4 : i.size = size) (h5 : i.bytes = bytes)
    (kl kc : IntKind) (C0 : Int) (hl : a.eval lo = .int kl 0) (hc : a.eval co = .int kc C0) (hC : C0 = (n : Int)) (b2 : bytes * n ≤ 281474976710656) (b3 : n ≤ maxLen)
    (hK : ∀ w', Has w' B (row T size (.slice (some ⟨w.heap.size, 0, none⟩) 0 n) 0 [] :: L) → Below B w w' → wpList P ops Q rest (a.put o.dst (.slice (some ⟨w.heap.size, 0, none⟩) 0 n)) w') :
    wpList P ops Q (o :: rest) a w := by
  refine wpList_make_own w hg lo co t hop w.heap.size T i z size h1 h2 h3 h4 kl kc C0 n hl hc hC (by rw [h5]; exact b2) b3 (Nat.le_refl _) ?_
  intro w' hown hgr
  refine hK w' ?_ ((Below.refl _ _).grown hgr hH.le (fun k hk => by cases hk))
  refine hH.new _ hgr.size (fun k hk => hgr.block k hk (by simp)) ⟨[w.heap.size], ⟨rfl, ?_⟩, by simp⟩
  rcases hown.2 with ⟨h, _⟩ | ⟨g, cap, cur, hv, hb, hgg, hrest⟩
  · cases h
  · cases hv
    exact ⟨hown.1, .inr ⟨w.heap.size, n, cur, rfl, Nat.zero_le _, hgg, hrest⟩⟩

set_option maxHeartbeats 1000000 in
set_option maxRecDepth 100000 in
theorem GAll_calls (gb mb hb n : Nat) (l W : List Int) (hl : hosts n l) (w : World) (B : Nat) (X : List Asr) (hH : Has w B (gstB gb mb hb :: GmapA mb l :: MemA hb n W :: X)) :
    Calls Try.prog 15 #[.pointer (some ⟨gb, 0, none⟩)] w fun e w' => ∃ v, e = .returned v ∧ Has w' B (row 33 1 v (l.length * 8) (u64s (gAll W n l)) :: gstB gb mb hb :: GmapA mb l :: MemA hb n W :: X) ∧ Below B w w' := by
  obtain ⟨i0, hi, hz0, hz1, hz2⟩ := info_parts infoU64
  obtain ⟨_, ⟨_, hl1, hl2⟩, _⟩ := GmapA.open (hH.front [_] _)
  have hW := (MemA.fits (hH.front [_, _] _)).2.2
  have HLH := hid hl
  have HW := hid hW
  have hlen := gAll_length hW hl
  have CF := hid (GFrames_calls gb mb hb l w B _ hH)
  have HLEN := hid hlen
  clear hl hW hlen
  go_enter Try.func15, Try.ntmps15
  go_wp2_with fail
  refine CF.out.mono ?_
  rintro e w' ⟨rfl, rfl⟩
  go_wp2_with (at_make; refine wpList_make_room (n := l.length * 8) hH rfl _ _ 34 rfl i0 _ 8 Try.underlying34 hi hz0 hz1 hz2 _ _ _ rfl rfl (by simp; omega) (by omega) (by unfold maxLen; omega) ?_; intro w1 hH1 hB1)
  have CF1 := hid (GFrames_calls gb mb hb l w1 B _ hH1.drop)
  clear CF
  refine CF1.out.mono ?_
  rintro e w' ⟨rfl, rfl⟩
  clear CF1
  generalize w.heap.size = g at *
  go_wp2_with fail
  go_loopg [3, 14] l.length (fun gh out i wr => ∃ (k : Nat) (v : Value), gh + k = l.length ∧ i = .int .i64 k ∧ out = v ∧ Has wr B (row 33 1 v (k * 8) (u64s ((gAll W n l).take (k * 8))) :: gstB gb mb hb :: GmapA mb l :: MemA hb n W :: X) ∧ Below B w wr)
  case atStart => exact ⟨0, _, by omega, rfl, rfl, by simpa [u64s] using hH1, hB1⟩
  case round =>
    obtain ⟨gr, rfl⟩ : ∃ gr, gr = gk := ⟨gk, rfl⟩
    obtain ⟨k, v, hk, rfl, rfl, hHr, hBr⟩ := hrel
    have HK := hid hk
    clear hH1 hB1 hk hH
    by_cases hlt : k < l.length
    · go_wp2_with fail
      go_loopg [3, 17] 8 (fun gh out i wr => ∃ (j : Nat) (v : Value), gh + j = 8 ∧ i = .int .i64 j ∧ out = v ∧ Has wr B (row 33 1 v (k * 8 + j) (u64s ((gAll W n l).take (k * 8 + j))) :: gstB gb mb hb :: GmapA mb l :: MemA hb n W :: X) ∧ Below B w wr)
      case atStart => exact ⟨0, _, by omega, rfl, rfl, hHr, hBr⟩
      case round =>
        obtain ⟨gj, rfl⟩ : ∃ gj, gj = gk := ⟨gk, rfl⟩
        obtain ⟨j, v2, hj, rfl, rfl, hHj, hBj⟩ := hrel
        have HJ := hid hj
        clear hHr hBr hj
        obtain ⟨ao, cp, rfl, _, _, _⟩ := hHj.row_form [] _
        by_cases hj8 : j < 8
        · obtain ⟨f, x, hf, hf0, hfn, hx, hgx⟩ := gGet_at HW.out HLH.out hlt hj8
          have hts := gAll_take_succ HW.out HLH.out hf hj8 hx
          have HTS := hid hts
          have cg := GGet_calls gb mb hb n l W k j wr B _ hHj.drop
          rw [hgx] at cg
          have CG := hid cg
          clear hts cg hf hx hgx hf0 hfn
          go_wp2_with fail
          refine CG.out.mono ?_
          rintro e w' ⟨rfl, rfl⟩
          go_wp2_with (at_builtin; refine wpList_append_row [] _ (hHj.alloc _) rfl _ _ 34 rfl i0 (.int .u64 0) 8 Try.underlying34 hi hz0 hz1 hz2 rfl (by decide) rfl ⟨wr.heap.size, 0, none⟩ 1 1 [.int .u64 x] rfl rfl (cell_one_new _ _ _) (by simp [Value.oneCell']) (by decide) (by unfold maxLen; omega) (by omega) ?_; intro g2 cap2 w2 hH2 hB2)
          go_roundg (gj - 1)
          case measure => have := HJ.out; omega
          case rel => exact ⟨j + 1, _, by have := HJ.out; omega, by go_num, rfl, by rw [show k * 8 + (j + 1) = k * 8 + j + 1 from rfl, HTS.out]; simpa [u64s] using hH2, hBj.trans ((below_new (Below.refl _ _) hHj _).trans hB2)⟩
        · obtain rfl : j = 8 := by have := HJ.out; omega
          go_wp2_with fail
          go_roundg (gr - 1)
          case measure => have := HK.out; omega
          case rel => exact ⟨k + 1, _, by have := HK.out; omega, by go_num, rfl, by rw [show (k + 1) * 8 = k * 8 + 8 from by omega]; exact hHj, hBj⟩
    · obtain rfl : k = l.length := by have := HK.out; omega
      rw [List.take_of_length_le (by rw [HLEN.out]; omega)] at hHr
      go_wp2_with fail
      go_ret
      exact ⟨_, rfl, hHr, hBr⟩

end Go.Proofs.Ytlkjccchlmhchaa
