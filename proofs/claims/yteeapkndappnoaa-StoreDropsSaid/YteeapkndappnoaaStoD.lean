/-
  Package store: slots, pages of a key, how many are free, a new one.
-/
import Derived.Test.YteeapkndappnoaaStoC
namespace Go.Proofs.Yteeapkndappnoaa
open Go.RowKit Go.Shelf
set_option linter.unusedVariables false
set_option linter.unusedSimpArgs false

theorem find_slot {n : Nat} {first many : Int} {F : List Int} {q : List (Nat × PageS)} (hP : StoP n first many F (q.map Prod.snd)) (f i : Int) (o : Option (Nat × PageS)) (ho : q.find? (fun x => x.2.f == f) = o) :
    (slotP o i = none ∧ slotAt (q.map Prod.snd) f i = none) ∨ ∃ (x : Nat × PageS) (j k : Nat) (y : SlotS), o = some x ∧ q[j]? = some x ∧ x.2.f = f ∧ i = (k : Int) ∧ k < 8 ∧ x.2.s[k]? = some y ∧ x.2.s.length = 8 ∧ slotP o i = some ⟨x.1, 4 + k * 5, none⟩ ∧ slotAt (q.map Prod.snd) f i = some y := by
  unfold slotAt slotP
  rw [find_page, ho]
  cases o with
  | none => exact .inl ⟨rfl, rfl⟩
  | some x =>
    have hx : x ∈ q := List.mem_of_find?_eq_some ho
    have hf := List.find?_some ho
    obtain ⟨j, hj⟩ := List.mem_iff_getElem?.1 hx
    have h8 := hP.s8 x.2 (List.mem_map_of_mem hx)
    dsimp only [Option.map]
    by_cases hi : 0 ≤ i ∧ i < 8
    · obtain ⟨k, rfl⟩ : ∃ k : Nat, i = (k : Int) := ⟨i.toNat, by omega⟩
      rw [if_pos hi, if_pos hi]
      obtain ⟨y, hy⟩ : ∃ y, x.2.s[k]? = some y := ⟨_, List.getElem?_eq_getElem (by omega)⟩
      exact .inr ⟨x, j, k, y, rfl, hj, by simpa using hf, rfl, by omega, hy, h8, rfl, hy⟩
    · rw [if_neg hi, if_neg hi]
      exact .inl ⟨rfl, rfl⟩

set_option maxHeartbeats 400000 in
theorem Slot_calls (sb hb n : Nat) (first many : Int) (F : List Int) (ps : List PageS) (f i : Int) (w : World) (B : Nat) (X : List Asr) (hH : Has w B (StoA sb hb n first many F ps :: X)) :
    Calls Try.prog 16 #[.pointer (some ⟨sb, 0, none⟩), .int .i64 f, .int .i64 i] w fun e w' => e = .returned (.tuple #[.agg (slotC ((slotAt ps f i).getD slotZ)), .bool (slotAt ps f i).isSome]) ∧ Has w' B (StoA sb hb n first many F ps :: X) ∧ Below B w w' := by
  obtain ⟨hP, fb, v, q, rfl, hl, hO⟩ := StoA.openX hH
  have hN := stoX_in (hO.newblk w.heap.size 42 (slotC slotZ) rfl)
  have bN := below_new (Below.refl B w) hO (.cells (slotC slotZ) 42)
  obtain ⟨o, ho⟩ : ∃ o, q.find? (fun x => x.2.f == f) = o := ⟨_, rfl⟩
  have CP := hid (slot_calls sb hb fb v first many F q f i o ho hl _ B _ hN)
  have HP := hid hP
  have zk := zeroSlot
  rcases find_slot hP f i o ho with ⟨h1, h2⟩ | ⟨x, j, k, y, rfl, hj, hf, rfl, hk8, hy, h8, h1, h2⟩
  · rw [h1] at CP
    rw [h2]
    clear hP ho hH h1 h2
    go_enter Try.func16, Try.ntmps16
    go_wp2_with fail
    refine CP.out.mono ?_
    rintro e w2 ⟨rfl, hH2, hB2⟩
    have hH2 := stoX_out hH2
    have hB2 := bN.trans hB2
    clear CP hN bN hO
    go_wp2_with (refine wpList_store_all [] _ hH2 42 (.tmp 6) (.tmp 15) rfl rfl rfl (slotL slotZ).toArray rfl slot_size rfl (slot_one _) ?_; intro w3 hH3 hB3 hz3)
    exact bodyPost_ret (results_cell_tmp (fn := Try.f16) rfl _ w3 w.heap.size 42 _ (0, 0) _ rfl (hH3.blk_at [] _).1 Try.underlying42 rfl slot_size) rfl ⟨rfl, StoA.shut fb v q HP.out hH3.drop, hB2.trans hB3⟩
  · rw [h1] at CP
    rw [h2]
    have HJ := hid hj
    have HY := hid hy
    clear hP ho hH h1 h2 hj hy h8 hf
    go_enter Try.func16, Try.ntmps16
    go_wp2_with fail
    refine CP.out.mono ?_
    rintro e w2 ⟨rfl, hH2, hB2⟩
    have hH2 := stoX_out hH2
    have hB2 := bN.trans hB2
    have KC := hid (pg_slot (stoX_R hH2.drop) HJ.out HY.out)
    clear CP hN bN hO
    go_wp2_with (first
      | (refine wpList_load_at 42 (.tmp 17) rfl rfl ⟨x.1, 4 + k * 5, none⟩ rfl _ (slotL y) KC.out Try.underlying42 rfl slot_size ?_)
      | (refine wpList_store_all [] _ hH2 42 (.tmp 6) (.tmp 18) rfl rfl rfl (slotL y).toArray rfl slot_size rfl (slot_one _) ?_; intro w3 hH3 hB3 hz3))
    exact bodyPost_ret (results_cell_tmp (fn := Try.f16) rfl _ w3 w.heap.size 42 _ (0, 0) _ rfl (hH3.blk_at [] _).1 Try.underlying42 rfl slot_size) rfl ⟨rfl, StoA.shut fb v q HP.out hH3.drop, hB2.trans hB3⟩

def findV (o : Option PageS) : Value := .tuple #[.int .i64 (match o with | some p => p.f | none => 0), .bool o.isSome]
theorem find_key (q : List (Nat × PageS)) (k : KeyS) : findK (q.map Prod.snd) k = (q.find? fun x => decide (x.2.k = k)).map Prod.snd := by
  unfold findK
  rw [List.find?_map]
  rfl
theorem pg_keys {w : World} {v : Value} {q : List (Nat × PageS)} (h : PgR w v q) {j : Nat} {x : Nat × PageS} (hx : q[j]? = some x) :
    w.cell? ⟨x.1, 0, none⟩ = some (.int .i64 x.2.f) ∧ w.cell? ⟨x.1, 1, none⟩ = some (.int .i64 x.2.k.g) ∧ w.cell? ⟨x.1, 2, none⟩ = some (.int .i64 x.2.k.lv) ∧ w.cell? ⟨x.1, 3, none⟩ = some (.int .i64 x.2.k.ro) :=
  ⟨h.page hx rfl, h.page hx rfl, h.page hx rfl, h.page hx rfl⟩

set_option maxHeartbeats 400000 in
theorem Find_calls (sb hb n : Nat) (first many : Int) (F : List Int) (ps : List PageS) (k : KeyS) (w : World) (B : Nat) (X : List Asr) (hH : Has w B (StoA sb hb n first many F ps :: X)) :
    Calls Try.prog 22 #[.pointer (some ⟨sb, 0, none⟩), .agg (keyC k)] w fun e w' => e = .returned (findV (findK ps k)) ∧ Has w' B (StoA sb hb n first many F ps :: X) ∧ Below B w w' := by
  obtain ⟨hP, fb, v, q, rfl, hl, hO⟩ := StoA.openX hH
  have hN := hO.newblk w.heap.size 31 (keyC k) rfl
  have bN := below_new (Below.refl B w) hO (.cells (keyC k) 31)
  obtain ⟨bb, hbb⟩ : ∃ bb, w.heap.size = bb := ⟨_, rfl⟩
  obtain ⟨w1, hw1⟩ : ∃ w1, w.alloc (.cells (keyC k) 31) = w1 := ⟨_, rfl⟩
  rw [hbb, hw1] at hN
  rw [hw1] at bN
  have n2 := hN.cell [_] _ 2 (v := v) rfl
  have HR := hid (stoX_R hN.drop)
  obtain ⟨ao, cap, rfl, hg⟩ := HR.out.prow
  have HG := hid hg
  have HP := hid hP
  have HK0 := hid (show w1.cell? ⟨bb, 0, none⟩ = some (.int .i64 k.g) ∧ w1.cell? ⟨bb, 1, none⟩ = some (.int .i64 k.lv) ∧ w1.cell? ⟨bb, 2, none⟩ = some (.int .i64 k.ro) from ⟨hN.cell [] _ 0 rfl, hN.cell [] _ 1 rfl, hN.cell [] _ 2 rfl⟩)
  rw [find_key]
  clear hH hP hg hO
  go_enter Try.func22, Try.ntmps22
  go_wp2_with fail
  go_loopg [13] q.length (fun g i wr => ∃ j : Nat, g + j = q.length ∧ i = .int .i64 j ∧ (∃ m, wr = w1.drewN m) ∧ ∀ (z : Nat) y, z < j → q[z]? = some y → ¬ y.2.k = k)
  case atStart => exact ⟨0, by omega, rfl, ⟨0, rfl⟩, fun z y h => by omega⟩
  case round =>
    obtain ⟨j, hj, rfl, ⟨m, hm⟩, hall⟩ := hrel
    have HJ := hid hj
    have HALL := hid hall
    have HM := hid hm
    clear hall n2
    by_cases hlt : j < q.length
    · obtain ⟨x, hx⟩ : ∃ x, q[j]? = some x := ⟨_, List.getElem?_eq_getElem hlt⟩
      obtain ⟨g, rfl, hrow⟩ := HG.out (by omega)
      have cr : wr.cell? ⟨g, j, none⟩ = some (.pointer (some ⟨x.1, 0, none⟩)) := by rw [hm]; exact hrow j x hx
      obtain ⟨p0, p1, p2, p3⟩ : wr.cell? ⟨x.1, 0, none⟩ = some (.int .i64 x.2.f) ∧ wr.cell? ⟨x.1, 1, none⟩ = some (.int .i64 x.2.k.g) ∧ wr.cell? ⟨x.1, 2, none⟩ = some (.int .i64 x.2.k.lv) ∧ wr.cell? ⟨x.1, 3, none⟩ = some (.int .i64 x.2.k.ro) := by rw [hm]; exact pg_keys HR.out hx
      obtain ⟨k0, k1, k2⟩ : wr.cell? ⟨bb, 0, none⟩ = some (.int .i64 k.g) ∧ wr.cell? ⟨bb, 1, none⟩ = some (.int .i64 k.lv) ∧ wr.cell? ⟨bb, 2, none⟩ = some (.int .i64 k.ro) := by rw [hm]; exact HK0.out
      have HX := hid hx
      obtain ⟨qb, hqb⟩ : ∃ qb, decide (x.2.k = k) = qb := ⟨_, rfl⟩
      have hE : ∀ W, Sem.run Try.prog (binOp .eql 31 (.agg #[.int .i64 x.2.k.g, .int .i64 x.2.k.lv, .int .i64 x.2.k.ro]) (.agg #[.int .i64 k.g, .int .i64 k.lv, .int .i64 k.ro])) W = .ok (.bool qb) W := fun W => by rw [← hqb]; exact keyS_eql x.2.k k W
      have HQ := hid hqb
      clear hqb hm hx hj hrow
      go_wp2_with fail
      go_quiet (fail)
      cases qb with
      | true =>
        go_wp2_with fail
        go_ret2
        have hfi : q.find? (fun x => decide (x.2.k = k)) = some x := by
          obtain ⟨h1, h2⟩ := List.getElem?_eq_some_iff.1 HX.out
          rw [List.find?_eq_some_iff_getElem]
          refine ⟨HQ.out, j, h1, h2, fun z hz => ?_⟩
          have := HALL.out z (q[z]'(by omega)) hz (List.getElem?_eq_getElem (by omega))
          simpa using this
        have hW : wr.drewN nq = w1.drewN (m + nq) := by rw [HM.out, World.drewN_drewN]
        refine ⟨by rw [hfi]; rfl, ?_, ?_⟩
        · rw [hW]
          exact StoA.shut fb _ q HP.out (hN.drop.drewN _)
        · rw [hW]
          exact below_drewNS bN _
      | false =>
        go_wp2_with fail
        go_roundg (gk - 1)
        case measure => have := HJ.out; omega
        case rel => exact ⟨j + 1, by have := HJ.out; omega, by go_num, ⟨m + nq, by rw [HM.out, World.drewN_drewN]⟩, fun z y hz hy => by
            by_cases e : z = j
            · subst e
              have h1 := HX.out
              rw [h1] at hy
              injection hy with hy
              rw [← hy]
              exact of_decide_eq_false HQ.out
            · exact HALL.out z y (by omega) hy⟩
    · obtain rfl : j = q.length := by omega
      clear hm hj
      go_wp2_with fail
      go_ret2
      have hfi : q.find? (fun x => decide (x.2.k = k)) = none := by
        rw [List.find?_eq_none]
        intro x hx
        obtain ⟨z, hz⟩ := List.mem_iff_getElem?.1 hx
        have := HALL.out z x (List.getElem?_eq_some_iff.1 hz).1 hz
        simpa using this
      refine ⟨by rw [hfi]; rfl, ?_, ?_⟩
      · rw [HM.out]
        exact StoA.shut fb _ q HP.out (hN.drop.drewN _)
      · rw [HM.out]
        exact below_drewNS bN _

theorem Left_calls (sb hb n : Nat) (first many : Int) (F : List Int) (ps : List PageS) (w : World) (B : Nat) (X : List Asr) (hH : Has w B (StoA sb hb n first many F ps :: X)) :
    Calls Try.prog 23 #[.pointer (some ⟨sb, 0, none⟩)] w fun e w' => e = .returned (.int .i64 F.length) ∧ Has w' B (StoA sb hb n first many F ps :: X) ∧ Below B w w' := by
  obtain ⟨hP, fb, v, q, rfl, hl, hO⟩ := StoA.openX hH
  have c1 := hO.cell [] _ 1 (v := ptrV fb) rfl
  unfold ptrV at c1
  have CL := hid ((FreeLeft fb first many F).at [_, _] _ hO)
  have HP := hid hP
  clear hP hH
  go_enter Try.func23, Try.ntmps23
  go_wp2_with fail
  refine CL.out.mono ?_
  rintro e w2 ⟨_, rfl, hH2, hB2⟩
  clear CL
  go_wp2_with fail
  go_ret
  exact ⟨rfl, StoA.shut fb v q HP.out hH2, hB2⟩

/-! ### a new one -/
def newP (n : Nat) (first many : Int) : Prop := 0 ≤ first ∧ 0 ≤ many ∧ first ≤ 256 ∧ many ≤ 256 - first ∧ first + many ≤ n
instance (n : Nat) (first many : Int) : Decidable (newP n first many) := by unfold newP; infer_instance
theorem StoP.new {n : Nat} {first many : Int} (h : newP n first many) (hF : FreeFits first many (freshL first many 0)) : StoP n first many (freshL first many 0) [] :=
  ⟨by simp, by simp, by simp, by simp, by simp, by simp, h.2.2.2.2, by rw [freshL_length]; simp; have := h.2.1; omega, hF⟩

set_option maxHeartbeats 400000 in
theorem New_yes (hb n : Nat) (first many : Int) (W : List Int) (h : newP n first many) (w : World) (B : Nat) (X : List Asr) (hH : Has w B (MemA hb n W :: X)) :
    Calls Try.prog 12 #[.pointer (some ⟨hb, 0, none⟩), .int .i64 first, .int .i64 many] w fun e w' => ∃ sb, e = .returned (.pointer (some ⟨sb, 0, none⟩)) ∧ Has w' B (StoA sb hb n first many (freshL first many 0) [] :: MemA hb n W :: X) ∧ Below B w w' := by
  have CF := hid ((FreeNew_ok first many h.1 h.2.1 h.2.2.1 h.2.2.2.1).mk hH)
  have hn := (MemA.fits hH).2.1
  have h4 := h.2.2.2.2
  have h1 := h.1
  have h2 := h.2.1
  have hw : IntKind.i64.wrap (first + many) = first + many := IntWalk.i64_in _ (by omega)
  have e1 : decide ((n : Int) < first + many) = false := decide_eq_false (by omega)
  have HN := hid h
  clear h
  go_enter Try.func12, Try.ntmps12
  go_wp2_with fail
  refine CF.out.mono ?_
  rintro e w2 ⟨fb, rfl, hH2, hB2⟩
  have CR := hid (Frames_calls hb n W w2 B _ (hH2.front [_] _))
  clear CF hH
  go_wp2_with fail
  refine CR.out.mono ?_
  rintro e w3 ⟨rfl, rfl⟩
  clear CR
  go_wp2_with fail
  go_ret
  have hF := hH2.free [] _
  have h5 := (hH2.newblk w2.heap.size 88 #[ptrV hb, ptrV fb, .slice none 0 0] rfl)
  have h6 := h5.nilrow 91 1
  refine ⟨w2.heap.size, rfl, StoA.shut fb (.slice none 0 0) [] (StoP.new HN.out hF) ?_, below_new hB2 hH2 _⟩
  exact h6.perm (List.Perm.swap _ _ _)
theorem New_no (hb n : Nat) (first many : Int) (W : List Int) (h : ¬ newP n first many) (hw1 : (Lit.int .i64 first).wf = true) (hw2 : (Lit.int .i64 many).wf = true) (w : World) (B : Nat) (X : List Asr) (hH : Has w B (MemA hb n W :: X)) :
    Calls Try.prog 12 #[.pointer (some ⟨hb, 0, none⟩), .int .i64 first, .int .i64 many] w fun e w' => e = .returned (.pointer none) ∧ Has w' B (MemA hb n W :: X) ∧ Below B w w' := by
  have hn := (MemA.fits hH).2.1
  by_cases hf : 0 ≤ first ∧ 0 ≤ many ∧ first ≤ 256 ∧ many ≤ 256 - first
  · have CF := hid ((FreeNew_ok first many hf.1 hf.2.1 hf.2.2.1 hf.2.2.2).mk hH)
    have h4 : ¬ first + many ≤ n := fun h' => h ⟨hf.1, hf.2.1, hf.2.2.1, hf.2.2.2, h'⟩
    have hw : IntKind.i64.wrap (first + many) = first + many := IntWalk.i64_in _ (by omega)
    have e1 : decide ((n : Int) < first + many) = true := decide_eq_true (by omega)
    clear h hf
    go_enter Try.func12, Try.ntmps12
    go_wp2_with fail
    refine CF.out.mono ?_
    rintro e w2 ⟨fb, rfl, hH2, hB2⟩
    have CR := hid (Frames_calls hb n W w2 B _ (hH2.front [_] _))
    clear CF hH
    go_wp2_with fail
    refine CR.out.mono ?_
    rintro e w3 ⟨rfl, rfl⟩
    clear CR
    go_wp2_with fail
    go_ret
    exact ⟨rfl, hH2.drop, hB2⟩
  · have CF := hid (FreeNew_no first many (by omega) w)
    clear h hf
    go_enter Try.func12, Try.ntmps12
    go_wp2_with fail
    refine CF.out.mono ?_
    rintro e w2 ⟨rfl, rfl⟩
    clear CF
    go_wp2_with fail
    go_ret
    exact ⟨rfl, hH, Below.refl _ _⟩

/-! ### a right key -/
set_option maxHeartbeats 400000 in
theorem right_calls (k : KeyS) (w : World) (B : Nat) (X : List Asr) (hH : Has w B X) :
    Calls Try.prog 56 #[.agg (keyC k)] w fun e w' => e = .returned (.bool (decide (rightK k))) ∧ Has w' B X ∧ Below B w w' := by
  have hN := hH.newblk w.heap.size 31 (keyC k) rfl
  have bN := below_new (Below.refl B w) hH (.cells (keyC k) 31)
  have c1 := hN.cell [] _ 1 (v := .int .i64 k.lv) rfl
  have c2 := hN.cell [] _ 2 (v := .int .i64 k.ro) rfl
  by_cases h1 : 1 ≤ k.lv
  rotate_left
  · have e0 : decide (1 ≤ k.lv) = false := decide_eq_false h1
    rw [decide_eq_false (show ¬ rightK k from fun h => by unfold rightK at h; omega)]
    clear h1
    go_enter Try.func56, Try.ntmps56
    go_wp2_with fail
    go_ret
    exact ⟨rfl, hN.drop, bN⟩
  have e0 : decide (1 ≤ k.lv) = true := decide_eq_true h1
  by_cases h2 : k.lv ≤ 3
  rotate_left
  · have e1 : decide (k.lv ≤ 3) = false := decide_eq_false h2
    rw [decide_eq_false (show ¬ rightK k from fun h => by unfold rightK at h; omega)]
    clear h1 h2
    go_enter Try.func56, Try.ntmps56
    go_wp2_with fail
    go_ret
    exact ⟨rfl, hN.drop, bN⟩
  have e1 : decide (k.lv ≤ 3) = true := decide_eq_true h2
  by_cases h3 : 0 ≤ k.ro
  rotate_left
  · have e2 : decide (0 ≤ k.ro) = false := decide_eq_false h3
    rw [decide_eq_false (show ¬ rightK k from fun h => by unfold rightK at h; omega)]
    clear h1 h2 h3
    go_enter Try.func56, Try.ntmps56
    go_wp2_with fail
    go_ret
    exact ⟨rfl, hN.drop, bN⟩
  have e2 : decide (0 ≤ k.ro) = true := decide_eq_true h3
  by_cases h4 : k.ro ≤ 2
  rotate_left
  · have e3 : decide (k.ro ≤ 2) = false := decide_eq_false h4
    rw [decide_eq_false (show ¬ rightK k from fun h => by unfold rightK at h; omega)]
    clear h1 h2 h3 h4
    go_enter Try.func56, Try.ntmps56
    go_wp2_with fail
    go_ret
    exact ⟨rfl, hN.drop, bN⟩
  have e3 : decide (k.ro ≤ 2) = true := decide_eq_true h4
  by_cases h5 : k.ro = 0
  · have e5 : (k.ro == 0) = true := by rw [beq_iff_eq]; exact h5
    rw [decide_eq_true (show rightK k from ⟨h1, h2, h3, h4, .inl h5⟩)]
    clear h1 h2 h3 h4 h5
    go_enter Try.func56, Try.ntmps56
    go_wp2_with fail
    go_ret
    exact ⟨rfl, hN.drop, bN⟩
  have e5 : (k.ro == 0) = false := by rw [beq_eq_false_iff_ne]; exact h5
  by_cases h6 : k.lv = 1
  · have e6 : (k.lv == 1) = true := by rw [beq_iff_eq]; exact h6
    rw [decide_eq_true (show rightK k from ⟨h1, h2, h3, h4, .inr h6⟩)]
    clear h1 h2 h3 h4 h5 h6
    go_enter Try.func56, Try.ntmps56
    go_wp2_with fail
    go_ret
    exact ⟨rfl, hN.drop, bN⟩
  · have e6 : (k.lv == 1) = false := by rw [beq_eq_false_iff_ne]; exact h6
    rw [decide_eq_false (show ¬ rightK k from fun h => h.2.2.2.2.elim h5 h6)]
    clear h1 h2 h3 h4 h5 h6
    go_enter Try.func56, Try.ntmps56
    go_wp2_with fail
    go_ret
    exact ⟨rfl, hN.drop, bN⟩

end Go.Proofs.Yteeapkndappnoaa
