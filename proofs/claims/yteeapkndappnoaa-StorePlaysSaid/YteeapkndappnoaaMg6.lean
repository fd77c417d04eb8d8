/-
  Texts of this proof, merged in their order: RstL, StorePlays.
-/
import Derived.Test.YteeapkndappnoaaMg5
import Derived.Deep.CutRange
/-
  The document's store: New; a call of the document's; contracts with named results.
-/
namespace Go.Proofs.Yteeapkndappnoaa
open Go.RowKit Go.Shelf
set_option linter.unusedVariables false
set_option linter.unusedSimpArgs false

theorem rmem_n {hb n : Nat} {W : List Int} {w : World} {B : Nat} {X : List Asr} (h : Has w B (RMemA hb n W :: X)) : n ≤ 256 := by
  obtain ⟨_, h, _⟩ := RMemA.open h
  exact h.2.1
set_option maxHeartbeats 400000 in
theorem RNew_yes (hb n : Nat) (first many : Int) (W : List Int) (h : newP n first many) (w : World) (B : Nat) (X : List Asr) (hH : Has w B (RMemA hb n W :: X)) :
    Calls Try.prog 32 #[.pointer (some ⟨hb, 0, none⟩), .int .i64 first, .int .i64 many] w fun e w' => ∃ sb, e = .returned (.pointer (some ⟨sb, 0, none⟩)) ∧ Has w' B (RStA sb hb n first many (freshL first many 0) [] :: RMemA hb n W :: X) ∧ Below B w w' := by
  have CF := hid ((RefNew_ok first many h.1 h.2.1 h.2.2.1 h.2.2.2.1).mk hH)
  have hn := rmem_n hH
  have h4 := h.2.2.2.2
  have h1 := h.1
  have h2 := h.2.1
  have hw : IntKind.i64.wrap (first + many) = first + many := IntWalk.i64_in _ (by omega)
  have e1 : decide ((n : Int) < first + many) = false := decide_eq_false (by omega)
  have HN := hid h
  clear h
  go_enter Try.func32, Try.ntmps32
  go_wp2_with fail
  refine CF.out.mono ?_
  rintro e w2 ⟨fb, rfl, hH2, hB2⟩
  have CR := hid (RFrames_calls hb n W w2 B _ (hH2.front [_] _))
  clear CF hH
  go_wp2_with fail
  refine CR.out.mono ?_
  rintro e w3 ⟨rfl, rfl⟩
  clear CR
  go_wp2_with fail
  go_ret
  have hF := (RefA.open hH2).1
  have h5 := (hH2.newblk w2.heap.size 114 #[ptrV hb, ptrV fb, .slice none 0 0] rfl)
  have h6 := h5.nilrow 116 5
  refine ⟨w2.heap.size, rfl, RStA.shut fb (.slice none 0 0) [] (StoP.new HN.out hF) ?_, below_new hB2 hH2 _⟩
  exact h6.perm (List.Perm.swap _ _ _)
theorem RNew_no (hb n : Nat) (first many : Int) (W : List Int) (h : ¬ newP n first many) (w : World) (B : Nat) (X : List Asr) (hH : Has w B (RMemA hb n W :: X)) :
    Calls Try.prog 32 #[.pointer (some ⟨hb, 0, none⟩), .int .i64 first, .int .i64 many] w fun e w' => e = .returned (.pointer none) ∧ Has w' B (RMemA hb n W :: X) ∧ Below B w w' := by
  have hn := rmem_n hH
  by_cases hf : 0 ≤ first ∧ 0 ≤ many ∧ first ≤ 256 ∧ many ≤ 256 - first
  · have CF := hid ((RefNew_ok first many hf.1 hf.2.1 hf.2.2.1 hf.2.2.2).mk hH)
    have h4 : ¬ first + many ≤ n := fun h' => h ⟨hf.1, hf.2.1, hf.2.2.1, hf.2.2.2, h'⟩
    have hw : IntKind.i64.wrap (first + many) = first + many := IntWalk.i64_in _ (by omega)
    have e1 : decide ((n : Int) < first + many) = true := decide_eq_true (by omega)
    clear h hf
    go_enter Try.func32, Try.ntmps32
    go_wp2_with fail
    refine CF.out.mono ?_
    rintro e w2 ⟨fb, rfl, hH2, hB2⟩
    have CR := hid (RFrames_calls hb n W w2 B _ (hH2.front [_] _))
    clear CF hH
    go_wp2_with fail
    refine CR.out.mono ?_
    rintro e w3 ⟨rfl, rfl⟩
    clear CR
    go_wp2_with fail
    go_ret
    exact ⟨rfl, hH2.drop, hB2⟩
  · have CF := hid (RefNew_no first many (by omega) w)
    clear h hf
    go_enter Try.func32, Try.ntmps32
    go_wp2_with fail
    refine CF.out.mono ?_
    rintro e w2 ⟨rfl, rfl⟩
    clear CF
    go_wp2_with fail
    go_ret
    exact ⟨rfl, hH, Below.refl _ _⟩

set_option maxHeartbeats 2000000 in
set_option maxRecDepth 100000 in
theorem plain_calls (sb hb n : Nat) (first many : Int) (S : StS) (o : OpS) (w : World) (B : Nat) (X : List Asr) (hH : Has w B (rstaL sb hb n first many S X)) :
    Calls Try.prog 33 #[.pointer (some ⟨sb, 0, none⟩), .agg (opL o).toArray] w fun e w' => e = .returned (.tuple #[.int .i64 (playI S o), .bool (playB n S o)]) ∧ Has w' B (rstaL sb hb n first many (playS n S o) X) ∧ Below B w w' := by
  obtain ⟨bb, hbb⟩ : ∃ b, w.heap.size = b := ⟨_, rfl⟩
  have hN : Has (w.alloc (.cells (opL o).toArray 35)) B (rstaL sb hb n first many S (blk bb 35 (opL o).toArray :: X)) := toX (hH.newblk bb 35 (opL o).toArray hbb)
  have bN := below_new (Below.refl B w) hH (.cells (opL o).toArray 35)
  have c0 := hN.cell [_, _] _ 0 (v := .int .i64 o.what) rfl
  have c1 := hN.cell [_, _] _ 1 (v := .int .i64 o.k.g) rfl
  have c2 := hN.cell [_, _] _ 2 (v := .int .i64 o.k.lv) rfl
  have c3 := hN.cell [_, _] _ 3 (v := .int .i64 o.k.ro) rfl
  have c4 := hN.cell [_, _] _ 4 (v := .int .i64 o.p) rfl
  have c5 := hN.cell [_, _] _ 5 (v := .int .i64 o.i) rfl
  have c6 := hN.cell [_, _] _ 6 (v := .int .i64 o.to) rfl
  have c7 := hN.cell [_, _] _ 7 (v := .int .i64 o.h) rfl
  have c8 := hN.cell [_, _] _ 8 (v := .bool o.r.1) rfl
  have c9 := hN.cell [_, _] _ 9 (v := .bool o.r.2.1) rfl
  have c10 := hN.cell [_, _] _ 10 (v := .bool o.r.2.2) rfl
  obtain ⟨pi, hpi⟩ : ∃ v, playI S o = v := ⟨_, rfl⟩
  obtain ⟨pb, hpb⟩ : ∃ v, playB n S o = v := ⟨_, rfl⟩
  obtain ⟨pS, hpS⟩ : ∃ v, playS n S o = v := ⟨_, rfl⟩
  have H1 := hpi
  have H2 := hpb
  have H3 := hpS
  unfold playI at H1
  unfold playB at H2
  unfold playS at H3
  rw [hpi, hpb, hpS]
  clear hpi hpb hpS hH
  by_cases h0 : o.what = 0
  · have e0 : (o.what == 0) = true := by rw [beq_iff_eq]; exact h0
    rw [if_pos (Or.inl h0)] at H1
    rw [if_pos (Or.inl h0)] at H2 H3
    subst H1 H2 H3
    have CC := hid (RMake_calls sb hb n first many S o.k _ B _ hN)
    clear hN h0
    go_enter Try.func33, Try.ntmps33
    go_wp2_with fail
    refine CC.out.mono ?_
    rintro e w2 ⟨rfl, hH2, hB2⟩
    go_wp2_with fail
    go_ret2
    exact ⟨rfl, Has.drop (fromX hH2), bN.trans hB2⟩
  have e0 : (o.what == 0) = false := by rw [beq_eq_false_iff_ne]; exact h0
  by_cases h1 : o.what = 1
  · have e1 : (o.what == 1) = true := by rw [beq_iff_eq]; exact h1
    rw [if_pos (Or.inr h1)] at H1
    rw [if_pos (Or.inr h1)] at H2 H3
    subst H1 H2 H3
    have CC := hid (RMake_calls sb hb n first many S o.k _ B _ hN)
    clear hN h0 h1
    go_enter Try.func33, Try.ntmps33
    go_wp2_with fail
    refine CC.out.mono ?_
    rintro e w2 ⟨rfl, hH2, hB2⟩
    go_wp2_with fail
    go_ret2
    exact ⟨rfl, Has.drop (fromX hH2), bN.trans hB2⟩
  have e1 : (o.what == 1) = false := by rw [beq_eq_false_iff_ne]; exact h1
  by_cases h2 : o.what = 2
  · have e2 : (o.what == 2) = true := by rw [beq_iff_eq]; exact h2
    rw [if_neg (not_or.2 ⟨h0, h1⟩)] at H1
    rw [if_neg (not_or.2 ⟨h0, h1⟩), if_pos (Or.inl h2)] at H2 H3
    subst H1 H2 H3
    have CC := hid (RChild_calls sb hb n first many S o.p o.i o.to o.r _ B _ hN)
    clear hN h0 h1 h2
    go_enter Try.func33, Try.ntmps33
    go_wp2_with fail
    refine CC.out.mono ?_
    rintro e w2 ⟨rfl, hH2, hB2⟩
    go_wp2_with fail
    go_ret2
    exact ⟨rfl, Has.drop (fromX hH2), bN.trans hB2⟩
  have e2 : (o.what == 2) = false := by rw [beq_eq_false_iff_ne]; exact h2
  by_cases h3 : o.what = 3
  · have e3 : (o.what == 3) = true := by rw [beq_iff_eq]; exact h3
    rw [if_neg (not_or.2 ⟨h0, h1⟩)] at H1
    rw [if_neg (not_or.2 ⟨h0, h1⟩), if_pos (Or.inr h3)] at H2 H3
    subst H1 H2 H3
    have CC := hid (RChild_calls sb hb n first many S o.p o.i o.to o.r _ B _ hN)
    clear hN h0 h1 h2 h3
    go_enter Try.func33, Try.ntmps33
    go_wp2_with fail
    refine CC.out.mono ?_
    rintro e w2 ⟨rfl, hH2, hB2⟩
    go_wp2_with fail
    go_ret2
    exact ⟨rfl, Has.drop (fromX hH2), bN.trans hB2⟩
  have e3 : (o.what == 3) = false := by rw [beq_eq_false_iff_ne]; exact h3
  by_cases h4 : o.what = 4
  · have e4 : (o.what == 4) = true := by rw [beq_iff_eq]; exact h4
    rw [if_neg (not_or.2 ⟨h0, h1⟩)] at H1
    rw [if_neg (not_or.2 ⟨h0, h1⟩), if_neg (not_or.2 ⟨h2, h3⟩), if_pos (Or.inl h4)] at H2 H3
    subst H1 H2 H3
    have CC := hid (RLeaf_calls sb hb n first many S o.p o.i o.to o.h o.r _ B _ hN)
    clear hN h0 h1 h2 h3 h4
    go_enter Try.func33, Try.ntmps33
    go_wp2_with fail
    refine CC.out.mono ?_
    rintro e w2 ⟨rfl, hH2, hB2⟩
    go_wp2_with fail
    go_ret2
    exact ⟨rfl, Has.drop (fromX hH2), bN.trans hB2⟩
  have e4 : (o.what == 4) = false := by rw [beq_eq_false_iff_ne]; exact h4
  by_cases h5 : o.what = 5
  · have e5 : (o.what == 5) = true := by rw [beq_iff_eq]; exact h5
    rw [if_neg (not_or.2 ⟨h0, h1⟩)] at H1
    rw [if_neg (not_or.2 ⟨h0, h1⟩), if_neg (not_or.2 ⟨h2, h3⟩), if_pos (Or.inr h5)] at H2 H3
    subst H1 H2 H3
    have CC := hid (RLeaf_calls sb hb n first many S o.p o.i o.to o.h o.r _ B _ hN)
    clear hN h0 h1 h2 h3 h4 h5
    go_enter Try.func33, Try.ntmps33
    go_wp2_with fail
    refine CC.out.mono ?_
    rintro e w2 ⟨rfl, hH2, hB2⟩
    go_wp2_with fail
    go_ret2
    exact ⟨rfl, Has.drop (fromX hH2), bN.trans hB2⟩
  have e5 : (o.what == 5) = false := by rw [beq_eq_false_iff_ne]; exact h5
  by_cases h6 : o.what = 6
  · have e6 : (o.what == 6) = true := by rw [beq_iff_eq]; exact h6
    rw [if_neg (not_or.2 ⟨h0, h1⟩)] at H1
    rw [if_neg (not_or.2 ⟨h0, h1⟩), if_neg (not_or.2 ⟨h2, h3⟩), if_neg (not_or.2 ⟨h4, h5⟩), if_pos h6] at H2 H3
    subst H1 H2 H3
    have CC := hid (RClear_calls sb hb n first many S o.p o.i _ B _ hN)
    clear hN h0 h1 h2 h3 h4 h5 h6
    go_enter Try.func33, Try.ntmps33
    go_wp2_with fail
    refine CC.out.mono ?_
    rintro e w2 ⟨rfl, hH2, hB2⟩
    go_wp2_with fail
    go_ret2
    exact ⟨rfl, Has.drop (fromX hH2), bN.trans hB2⟩
  have e6 : (o.what == 6) = false := by rw [beq_eq_false_iff_ne]; exact h6
  rw [if_neg (not_or.2 ⟨h0, h1⟩)] at H1
  rw [if_neg (not_or.2 ⟨h0, h1⟩), if_neg (not_or.2 ⟨h2, h3⟩), if_neg (not_or.2 ⟨h4, h5⟩), if_neg h6] at H2 H3
  subst H1 H2 H3
  have CC := hid (RDrop_calls sb hb n first many S o.p _ B _ hN)
  clear hN h0 h1 h2 h3 h4 h5 h6
  go_enter Try.func33, Try.ntmps33
  go_wp2_with fail
  refine CC.out.mono ?_
  rintro e w2 ⟨rfl, hH2, hB2⟩
  go_wp2_with fail
  go_ret2
  exact ⟨rfl, Has.drop (fromX hH2), bN.trans hB2⟩


/-! ### contracts with named results -/
section
variable (sb hb n : Nat) (first many : Int) (S : StS) (w : World) (B : Nat) (X : List Asr)
theorem RSlotIs (f i : Int) (y : SlotS) (b : Bool) (hy : (slotAt S.ps f i).getD slotZ = y) (h1 : (slotAt S.ps f i).isSome = b) (hH : Has w B (rstaL sb hb n first many S X)) :
    Calls Try.prog 36 #[.pointer (some ⟨sb, 0, none⟩), .int .i64 f, .int .i64 i] w fun e w' => e = .returned (.tuple #[.agg (slotC y), .bool b]) ∧ Has w' B (rstaL sb hb n first many S X) ∧ Below B w w' := by
  subst hy h1
  exact RSlot_calls sb hb n first many S.F S.ps f i w B _ hH
theorem RLeftIs (k : Int) (hk : (S.F.length : Int) = k) (hH : Has w B (rstaL sb hb n first many S X)) :
    Calls Try.prog 37 #[.pointer (some ⟨sb, 0, none⟩)] w fun e w' => e = .returned (.int .i64 k) ∧ Has w' B (rstaL sb hb n first many S X) ∧ Below B w w' := by
  subst hk
  exact RStLeft_calls sb hb n first many S.F S.ps w B _ hH
theorem RParentsIs (f : Int) (l : List (Int × Int)) (hl : toldL 1 f (allS S.ps) = l) (hH : Has w B (rstaL sb hb n first many S X)) :
    Calls Try.prog 41 #[.pointer (some ⟨sb, 0, none⟩), .int .i64 f] w fun e w' => ∃ ao cap, e = .returned (.slice ao l.length cap) ∧ Has w' B (rstaL sb hb n first many S (row 46 2 (.slice ao l.length cap) l.length (atsL l) :: X)) ∧ Below B w w' := by
  subst hl
  refine (RParents_calls sb hb n first many S.F S.ps f _ rfl w B _ hH).mono ?_
  rintro e w' ⟨ao, cap, rfl, h2, h3⟩
  exact ⟨ao, cap, rfl, toX h2, h3⟩
theorem RLeavesIs (g : Int) (l : List (Int × Int)) (hl : toldL 2 g (allS S.ps) = l) (hH : Has w B (rstaL sb hb n first many S X)) :
    Calls Try.prog 42 #[.pointer (some ⟨sb, 0, none⟩), .int .i64 g] w fun e w' => ∃ ao cap, e = .returned (.slice ao l.length cap) ∧ Has w' B (rstaL sb hb n first many S (row 46 2 (.slice ao l.length cap) l.length (atsL l) :: X)) ∧ Below B w w' := by
  subst hl
  refine (RLeaves_calls sb hb n first many S.F S.ps g _ rfl w B _ hH).mono ?_
  rintro e w' ⟨ao, cap, rfl, h2, h3⟩
  exact ⟨ao, cap, rfl, toX h2, h3⟩
theorem RAllIs (l : List Int) (hl : S.ps.map (·.f) = l) (hH : Has w B (rstaL sb hb n first many S X)) :
    Calls Try.prog 39 #[.pointer (some ⟨sb, 0, none⟩)] w fun e w' => ∃ ao cap, e = .returned (.slice ao l.length cap) ∧ Has w' B (rstaL sb hb n first many S (row 3 1 (.slice ao l.length cap) l.length (l.map (Value.int .i64)) :: X)) ∧ Below B w w' := by
  subst hl
  refine (RAll_calls sb hb n first many S.F S.ps _ rfl w B _ hH).mono ?_
  rintro e w' ⟨v, rfl, h2, h3⟩
  obtain ⟨ao, cap, rfl, _⟩ := h2.row_form [] _
  exact ⟨ao, cap, rfl, toX h2, h3⟩
theorem ROfIs (g : Int) (l : List Int) (hl : framesOf (ofP g) S.ps = l) (hH : Has w B (rstaL sb hb n first many S X)) :
    Calls Try.prog 40 #[.pointer (some ⟨sb, 0, none⟩), .int .i64 g] w fun e w' => ∃ ao cap, e = .returned (.slice ao l.length cap) ∧ Has w' B (rstaL sb hb n first many S (row 3 1 (.slice ao l.length cap) l.length (l.map (Value.int .i64)) :: X)) ∧ Below B w w' := by
  subst hl
  refine (ROf_calls sb hb n first many S.F S.ps g _ rfl w B _ hH).mono ?_
  rintro e w' ⟨v, rfl, h2, h3⟩
  obtain ⟨ao, cap, rfl, _⟩ := h2.row_form [] _
  exact ⟨ao, cap, rfl, toX h2, h3⟩
theorem RKeyIs0 (f : Int) (k : KeyS) (b : Bool) (hk : keyAt S.ps f = k) (hb' : (pageAt S.ps f).isSome = b) (hH : Has w B (rstaL sb hb n first many S X)) :
    Calls Try.prog 35 #[.pointer (some ⟨sb, 0, none⟩), .int .i64 f] w fun e w' => e = .returned (.tuple #[.agg (keyC k), .bool b]) ∧ Has w' B (rstaL sb hb n first many S X) ∧ Below B w w' := by
  subst hk hb'
  exact RKey_calls sb hb n first many S.F S.ps f w B _ hH
theorem RFindIs (k : KeyS) (v : Int) (b : Bool) (h1 : (match findK S.ps k with | some p => p.f | none => 0) = v) (h2 : (findK S.ps k).isSome = b) (hH : Has w B (rstaL sb hb n first many S X)) :
    Calls Try.prog 34 #[.pointer (some ⟨sb, 0, none⟩), .agg (keyC k)] w fun e w' => e = .returned (.tuple #[.int .i64 v, .bool b]) ∧ Has w' B (rstaL sb hb n first many S X) ∧ Below B w w' := by
  rw [← findV_lit _ v b h1 h2]
  exact RFind_calls sb hb n first many S.F S.ps k w B _ hH
end

end Go.Proofs.Yteeapkndappnoaa

/-
  StorePlays: calls of a store, in any frames of a host, answer as the document says; so do all pages, their keys and slots, who tells them, and all of the host's words.
-/
namespace Go.Proofs.Yteeapkndappnoaa
open Go.RowKit Go.Shelf
set_option linter.unusedVariables false
set_option linter.unusedSimpArgs false

theorem sops_at2 {l : List OpS} {w : World} {a : Option Addr} {len : Nat} (hA : ArgRow w 11 a len (l.flatMap opL)) {k : Nat} {o : OpS} (hk : l[k]? = some o) : ∃ b of, a = some ⟨b, of, none⟩ ∧ ∀ w', Below w.heap.size w w' → ∀ i u, (opL o)[i]? = some u → w'.cell? ((⟨b, of + k * 11, none⟩ : Addr).add i) = some u := by
  have hlen := sops_len hA
  have hkl := (List.getElem?_eq_some_iff.1 hk).1
  obtain ⟨b, of, rfl, hbw, hc⟩ := hA.mem (by omega)
  refine ⟨b, of, rfl, fun w' hb i u hu => ?_⟩
  have hi : i < 11 := by have := (List.getElem?_eq_some_iff.1 hu).1; simpa [opL] using this
  have e : (⟨b, of + k * 11, none⟩ : Addr).add i = ⟨b, of + (k * 11 + i), none⟩ := by unfold Addr.add; split <;> simp_all <;> omega
  rw [e]
  refine (hb.cell (p := ⟨b, of + (k * 11 + i), none⟩) hbw).trans (hc _ _ ?_)
  rw [flat_get opL 11 (fun _ => rfl) l k i o hk hi]
  exact hu
theorem RMemNew_yes (n : Nat) (h1 : 1 ≤ n) (h2 : n ≤ 256) (w : World) (B : Nat) (X : List Asr) (hH : Has w B X) :
    Calls Try.prog 31 #[.int .i64 n] w fun e w' => ∃ b, e = .returned (.pointer (some ⟨b, 0, none⟩)) ∧ Has w' B (RMemA b n (List.replicate (n * 8) 0) :: X) ∧ Below B w w' := by
  refine (RMemNew_calls n w B X hH).mono ?_
  rintro e w' (⟨h, _⟩ | ⟨b, m, hm, _, _, rfl, h3, h4⟩)
  · omega
  · obtain rfl : n = m := by omega
    exact ⟨b, rfl, h3, h4⟩

set_option maxHeartbeats 4000000 in
set_option maxRecDepth 100000 in
theorem StorePlays_walk (first many : Int) (oa : Option Addr) (olen ocap : Nat) (l : List OpS) (k : KeyS) (p i : Int) (w : World) (hfw : (Lit.int .i64 first).wf = true) (hmw : (Lit.int .i64 many).wf = true) (hA : ArgRow w 11 oa olen (l.flatMap opL)) (hl : ∀ x ∈ l, OpOk x) (hk : KeyOk k) (hpw : (Lit.int .i64 p).wf = true) (hiw : (Lit.int .i64 i).wf = true) :
    Calls Try.prog 9 #[.int .i64 first, .int .i64 many, .slice oa olen ocap, .agg (keyL k).toArray, .int .i64 p, .int .i64 i] w fun e w' => e = .returned (.bool true) ∧ Below w.heap.size w w' := by
  obtain rfl := sops_len hA
  have HA := hid hA
  have HOK := hid hl
  have hol := hA.small
  have hHz : Has w w.heap.size [] := Has.nil (Nat.le_refl _)
  have hH0 : Has _ w.heap.size [blk w.heap.size 31 (keyC k)] := hHz.newblk w.heap.size 31 (keyC k) rfl
  have hB0 := below_new (Below.refl _ w) hHz (.cells (keyC k) 31)
  have HFW := hid hfw
  have HMW := hid hmw
  clear hA hl hk hHz hfw hmw
  go_enter Try.func9, Try.ntmps9
  go_wp2_with fail
  refine (head_true _ _ _ hH0).mono ?_
  rintro e w1 ⟨_, rfl, hH1, hB1⟩
  have hB1 := hB0.trans hB1
  go_wp2_with fail
  refine (MemNew_yes 24 (by decide) (by decide) w1 _ _ hH1).mono ?_
  rintro e w2 ⟨hb, rfl, hH2, hB2⟩
  have hB2 := hB1.trans hB2
  clear hH0 hB0 hH1 hB1
  go_wp2_with fail
  refine (RMemNew_yes 24 (by decide) (by decide) w2 _ _ hH2).mono ?_
  rintro e w3 ⟨rb, rfl, hH3, hB3⟩
  have hB3 := hB2.trans hB3
  have hH3 : Has w3 w.heap.size (RMemA rb 24 (List.replicate (24 * 8) 0) :: MemA hb 24 (List.replicate (24 * 8) 0) :: [blk w.heap.size 31 (keyC k)]) := hH3
  clear hH2 hB2
  by_cases hbig : 200 < l.length
  · have e1 : decide (200 < l.length) = true := decide_eq_true hbig
    have e2 : decide (200 < (l.length : Int)) = true := decide_eq_true (by omega)
    go_wp2_with fail
    go_ret
    exact ⟨rfl, hB3⟩
  have e1 : decide (200 < l.length) = false := decide_eq_false hbig
  have e2 : decide (200 < (l.length : Int)) = false := decide_eq_false (by omega)
  by_cases hN : newP 24 first many
  rotate_left
  · have C1 := hid (New_no hb 24 first many _ hN HFW.out HMW.out w3 _ _ (hH3.pick [1, 0, 2]))
    clear HFW HMW hH3
    have HN := hid hN
    clear hN
    go_wp2_with fail
    refine C1.out.mono ?_
    rintro e w4 ⟨rfl, hH4, hB4⟩
    have hB4 := hB3.trans hB4
    have C2 := hid (RNew_no rb 24 first many _ HN.out w4 _ _ (hH4.pick [1, 0, 2]))
    clear C1 hH4
    go_wp2_with fail
    refine C2.out.mono ?_
    rintro e w5 ⟨rfl, hH5, hB5⟩
    clear C2
    go_wp2_with fail
    go_ret
    exact ⟨rfl, hB4.trans hB5⟩
  have HN := hid hN
  have C1 := hid (New_yes hb 24 first many _ hN w3 _ _ (hH3.pick [1, 0, 2]))
  clear HFW HMW hH3 hN
  go_wp2_with fail
  refine C1.out.mono ?_
  rintro e w4 ⟨sb, rfl, hH4, hB4⟩
  have hB4 := hB3.trans hB4
  have hH4 : Has w4 w.heap.size (staL sb hb 24 first many ⟨List.replicate (24 * 8) 0, freshL first many 0, []⟩ (RMemA rb 24 (List.replicate (24 * 8) 0) :: [blk w.heap.size 31 (keyC k)])) := hH4
  have C2 := hid (RNew_yes rb 24 first many _ HN.out w4 _ _ (hH4.pick [2, 0, 1, 3]))
  clear C1 hH4 hB3
  go_wp2_with fail
  refine C2.out.mono ?_
  rintro e w5 ⟨tb, rfl, hH5, hB5⟩
  have hB5 := hB4.trans hB5
  have hH5 : Has w5 w.heap.size (staL sb hb 24 first many ⟨List.replicate (24 * 8) 0, freshL first many 0, []⟩ (rstaL tb rb 24 first many ⟨List.replicate (24 * 8) 0, freshL first many 0, []⟩ ([blk w.heap.size 31 (keyC k)]))) := hH5.pick [2, 3, 0, 1, 4]
  clear C2 hB4
  go_wp2_with fail
  go_loopg [18] l.length (fun g i wr => ∃ j : Nat, g + j = l.length ∧ i = .int .i64 j ∧ Has wr w.heap.size (staL sb hb 24 first many (runS 24 ⟨List.replicate (24 * 8) 0, freshL first many 0, []⟩ (l.take j)) (rstaL tb rb 24 first many (runS 24 ⟨List.replicate (24 * 8) 0, freshL first many 0, []⟩ (l.take j)) ([blk w.heap.size 31 (keyC k)]))) ∧ Below w.heap.size w wr)
  case atStart => exact ⟨0, by omega, rfl, hH5, hB5⟩
  case round =>
    obtain ⟨j, hj, rfl, hHr, hBr⟩ := hrel
    clear hH5 hB5
    have HJ := hid hj
    by_cases hlt : j < l.length
    · obtain ⟨x, hx⟩ : ∃ x, l[j]? = some x := ⟨_, List.getElem?_eq_getElem hlt⟩
      obtain ⟨b, of, rfl, hPC⟩ := sops_at2 HA.out hx
      have PA := hid (hPC wr hBr)
      have hst := runS_succ (n := 24) (S := ⟨List.replicate (24 * 8) 0, freshL first many 0, []⟩) hx
      have HX := hid (HOK.out x (List.mem_of_getElem? hx))
      obtain ⟨S, hS⟩ : ∃ S, runS 24 ⟨List.replicate (24 * 8) 0, freshL first many 0, []⟩ (l.take (j + 1)) = S := ⟨_, rfl⟩
      have HRS := hid hS
      rw [hS] at hst
      have HST := hid hst
      obtain ⟨S', hS'⟩ : ∃ S', runS 24 ⟨List.replicate (24 * 8) 0, freshL first many 0, []⟩ (l.take j) = S' := ⟨_, rfl⟩
      rw [hS'] at hHr hst
      have HST := hid hst
      clear hst hx hj hS hS'
      go_wp2_with (refine wpList_load_at 35 (.tmp 83) rfl rfl ⟨b, of + j * 11, none⟩ rfl _ (opL x) PA.out Try.underlying35 rfl op_size ?_)
      refine (play_calls sb hb 24 first many _ x HX.out wr _ _ hHr).mono ?_
      rintro e v1 ⟨rfl, hV1, b1⟩
      rw [← HST.out] at hV1
      have bA := hBr.trans b1
      have PB := hid (hPC v1 bA)
      have hV1 : Has v1 w.heap.size (rstaL tb rb 24 first many S' (staL sb hb 24 first many S ([blk w.heap.size 31 (keyC k)]))) := hV1.pick [2, 3, 0, 1, 4]
      clear PA hPC hHr hBr b1
      go_wp2_with (refine wpList_load_at 35 (.tmp 92) rfl rfl ⟨b, of + j * 11, none⟩ rfl _ (opL x) PB.out Try.underlying35 rfl op_size ?_)
      refine (plain_calls tb rb 24 first many _ x v1 _ _ hV1).mono ?_
      rintro e v2 ⟨rfl, hV2, b2⟩
      rw [← HST.out] at hV2
      obtain ⟨pI, hpI⟩ : ∃ v, playI S' x = v := ⟨_, rfl⟩
      obtain ⟨pB, hpB⟩ : ∃ v, playB 24 S' x = v := ⟨_, rfl⟩
      rw [hpI, hpB]
      have bA := bA.trans b2
      have hV2 : Has v2 w.heap.size (staL sb hb 24 first many S (rstaL tb rb 24 first many S ([blk w.heap.size 31 (keyC k)]))) := hV2.pick [2, 3, 0, 1, 4]
      clear PB hpI hpB hV1 b2 HST HX
      obtain ⟨fv, hfv⟩ : ∃ v, (match findK S.ps k with | some p => p.f | none => 0) = v := ⟨_, rfl⟩
      obtain ⟨fd, hfd⟩ : ∃ b, (findK S.ps k).isSome = b := ⟨_, rfl⟩
      have C1 := hid (FindIs sb hb 24 first many S k fv fd hfv hfd v2 _ _ hV2)
      have HFV := hid hfv
      have HFD := hid hfd
      obtain ⟨c0, c1, c2⟩ := key_cells [_, _, _, _] hV2
      clear hfv hfd hV2
      go_wp2_with fail
      refine C1.out.mono ?_
      rintro e v3 ⟨rfl, hV3, b3⟩
      have bA := bA.trans b3
      have C2 := hid (RFindIs tb rb 24 first many S v3 _ [StoA sb hb 24 first many S.F S.ps, MemA hb 24 S.W, blk w.heap.size 31 (keyC k)] k fv fd HFV.out HFD.out (hV3.pick [2, 3, 0, 1, 4]))
      clear C1 c0 c1 c2 b3 HFV HFD
      obtain ⟨c0, c1, c2⟩ := key_cells [_, _, _, _] hV3
      clear hV3
      go_wp2_with fail
      refine C2.out.mono ?_
      rintro e v4 ⟨rfl, hV4, b4⟩
      have bA := bA.trans b4
      have hV4 : Has v4 w.heap.size (staL sb hb 24 first many S (rstaL tb rb 24 first many S ([blk w.heap.size 31 (keyC k)]))) := hV4.pick [2, 3, 0, 1, 4]
      clear C2 c0 c1 c2 b4
      obtain ⟨ky, hky⟩ : ∃ v, keyAt S.ps p = v := ⟨_, rfl⟩
      obtain ⟨kd, hkd⟩ : ∃ b, (pageAt S.ps p).isSome = b := ⟨_, rfl⟩
      have HKY := hid hky
      have HKD := hid hkd
      have C1 := hid (KeyIs sb hb 24 first many S p ky kd hky hkd v4 _ _ hV4)
      clear hky hkd hV4
      have zk := zeroKeyL
      have tok : True := trivial
      go_wp2_with fail
      refine C1.out.mono ?_
      rintro e v5 ⟨rfl, hV5, b5⟩
      have bA := bA.trans b5
      have hA1 := hV5.newblk v5.heap.size 31 #[.int .i64 0, .int .i64 0, .int .i64 0] rfl
      have bA1 := below_new bA hV5 (.cells #[.int .i64 0, .int .i64 0, .int .i64 0] 31)
      clear C1 b5
      go_wp2_with (have _t := tok; refine wpList_store_all [] _ hA1 31 (.tmp 27) (.tmp 113) rfl rfl rfl (keyC ky) rfl key_size rfl (key_one _) ?_; clear _t tok; intro v6 hV6 b6 hz; clear hz; have bA := bA1.trans b6)
      obtain ⟨kb1, hkb1⟩ : ∃ b, v5.heap.size = b := ⟨_, rfl⟩
      rw [hkb1] at hV6 ⊢
      have hV6 : Has v6 w.heap.size (rstaL tb rb 24 first many S (staL sb hb 24 first many S ([blk kb1 31 (keyC ky), blk w.heap.size 31 (keyC k)]))) := hV6.pick [3, 4, 1, 2, 0, 5]
      clear hA1 bA1 b6 hkb1 hV5
      have C1 := hid (RKeyIs0 tb rb 24 first many S v6 _ _ p ky kd HKY.out HKD.out hV6)
      have tok : True := trivial
      clear hV6 HKY HKD
      go_wp2_with fail
      refine C1.out.mono ?_
      rintro e v7 ⟨rfl, hV7, b7⟩
      have bA := bA.trans b7
      have hA1 := hV7.newblk v7.heap.size 31 #[.int .i64 0, .int .i64 0, .int .i64 0] rfl
      have bA1 := below_new bA hV7 (.cells #[.int .i64 0, .int .i64 0, .int .i64 0] 31)
      clear C1 b7
      go_wp2_with (have _t := tok; refine wpList_store_all [] _ hA1 31 (.tmp 29) (.tmp 119) rfl rfl rfl (keyC ky) rfl key_size rfl (key_one _) ?_; clear _t tok; intro v8 hV8 b8 hz; clear hz; have bA := bA1.trans b8)
      obtain ⟨kb2, hkb2⟩ : ∃ b, v7.heap.size = b := ⟨_, rfl⟩
      rw [hkb2] at hV8 ⊢
      have hV8 : Has v8 w.heap.size (staL sb hb 24 first many S (rstaL tb rb 24 first many S ([blk w.heap.size 31 (keyC k), blk kb1 31 (keyC ky), blk kb2 31 (keyC ky)]))) := hV8.pick [3, 4, 1, 2, 6, 5, 0]
      clear hA1 bA1 b8 hkb2 zk hV7
      obtain ⟨sl, hsl⟩ : ∃ v, (slotAt S.ps p i).getD slotZ = v := ⟨_, rfl⟩
      obtain ⟨sd, hsd⟩ : ∃ b, (slotAt S.ps p i).isSome = b := ⟨_, rfl⟩
      have HSL := hid hsl
      have HSD := hid hsd
      have C1 := hid (SlotIs sb hb 24 first many S v8 _ _ p i sl sd hsl hsd hV8)
      clear hsl hsd hV8
      have zs := zeroSlotL
      have tok : True := trivial
      go_wp2_with fail
      refine C1.out.mono ?_
      rintro e v9 ⟨rfl, hV9, b9⟩
      have bA := bA.trans b9
      have hA1 := hV9.newblk v9.heap.size 42 #[.int .i64 0, .int .i64 0, .bool false, .bool false, .bool false] rfl
      have bA1 := below_new bA hV9 (.cells #[.int .i64 0, .int .i64 0, .bool false, .bool false, .bool false] 42)
      clear C1 b9
      go_wp2_with (have _t := tok; refine wpList_store_all [] _ hA1 42 (.tmp 31) (.tmp 126) rfl rfl rfl (slotC sl) rfl slot_size rfl (slot_one _) ?_; clear _t tok; intro v10 hV10 b10 hz; clear hz; have bA := bA1.trans b10)
      obtain ⟨sb1, hsb1⟩ : ∃ b, v9.heap.size = b := ⟨_, rfl⟩
      rw [hsb1] at hV10 ⊢
      have hV10 : Has v10 w.heap.size (rstaL tb rb 24 first many S (staL sb hb 24 first many S ([blk w.heap.size 31 (keyC k), blk kb1 31 (keyC ky), blk kb2 31 (keyC ky), blk sb1 42 (slotC sl)]))) := hV10.pick [3, 4, 1, 2, 5, 6, 7, 0]
      clear hA1 bA1 b10 hsb1 hV9
      have C1 := hid (RSlotIs tb rb 24 first many S v10 _ _ p i sl sd HSL.out HSD.out hV10)
      have tok : True := trivial
      clear hV10 HSL HSD
      go_wp2_with fail
      refine C1.out.mono ?_
      rintro e v11 ⟨rfl, hV11, b11⟩
      have bA := bA.trans b11
      have hA1 := hV11.newblk v11.heap.size 42 #[.int .i64 0, .int .i64 0, .bool false, .bool false, .bool false] rfl
      have bA1 := below_new bA hV11 (.cells #[.int .i64 0, .int .i64 0, .bool false, .bool false, .bool false] 42)
      clear C1 b11
      have hN1 : ∀ W, Sem.run Try.prog (binOp .neq 31 (.agg #[.int .i64 ky.g, .int .i64 ky.lv, .int .i64 ky.ro]) (.agg #[.int .i64 ky.g, .int .i64 ky.lv, .int .i64 ky.ro])) W = .ok (.bool false) W := fun W => (keyS_neq ky ky W).trans (by simp)
      have hN2 : ∀ W, Sem.run Try.prog (binOp .neq 42 (.agg #[.int .i64 sl.kd, .int .i64 sl.to, .bool sl.w, .bool sl.u, .bool sl.x]) (.agg #[.int .i64 sl.kd, .int .i64 sl.to, .bool sl.w, .bool sl.u, .bool sl.x])) W = .ok (.bool false) W := fun W => (slotS_neq sl sl W).trans (by simp)
      go_wp2_with (have _t := tok; refine wpList_store_all [] _ hA1 42 (.tmp 33) (.tmp 133) rfl rfl rfl (slotC sl) rfl slot_size rfl (slot_one _) ?_; clear _t tok; intro v12 hV12 b12 hz; clear hz; have bA := bA1.trans b12; have hV12 : Has v12 w.heap.size (staL sb hb 24 first many S (rstaL tb rb 24 first many S [blk w.heap.size 31 (keyC k), blk kb1 31 (keyC ky), blk kb2 31 (keyC ky), blk sb1 42 (slotC sl), blk v11.heap.size 42 (slotL sl).toArray])) := hV12.pick [3, 4, 1, 2, 5, 6, 7, 8, 0]; have ka0 := hV12.cell [_, _, _, _, _] _ 0 (v := Value.int .i64 ky.g) rfl; have ka1 := hV12.cell [_, _, _, _, _] _ 1 (v := Value.int .i64 ky.lv) rfl; have ka2 := hV12.cell [_, _, _, _, _] _ 2 (v := Value.int .i64 ky.ro) rfl; have kc0 := hV12.cell [_, _, _, _, _, _] _ 0 (v := Value.int .i64 ky.g) rfl; have kc1 := hV12.cell [_, _, _, _, _, _] _ 1 (v := Value.int .i64 ky.lv) rfl; have kc2 := hV12.cell [_, _, _, _, _, _] _ 2 (v := Value.int .i64 ky.ro) rfl; have sa0 := hV12.cell [_, _, _, _, _, _, _] _ 0 (v := Value.int .i64 sl.kd) rfl; have sa1 := hV12.cell [_, _, _, _, _, _, _] _ 1 (v := Value.int .i64 sl.to) rfl; have sa2 := hV12.cell [_, _, _, _, _, _, _] _ 2 (v := Value.bool sl.w) rfl; have sa3 := hV12.cell [_, _, _, _, _, _, _] _ 3 (v := Value.bool sl.u) rfl; have sa4 := hV12.cell [_, _, _, _, _, _, _] _ 4 (v := Value.bool sl.x) rfl; have sc0 := hV12.cell [_, _, _, _, _, _, _, _] _ 0 (v := Value.int .i64 sl.kd) rfl; have sc1 := hV12.cell [_, _, _, _, _, _, _, _] _ 1 (v := Value.int .i64 sl.to) rfl; have sc2 := hV12.cell [_, _, _, _, _, _, _, _] _ 2 (v := Value.bool sl.w) rfl; have sc3 := hV12.cell [_, _, _, _, _, _, _, _] _ 3 (v := Value.bool sl.u) rfl; have sc4 := hV12.cell [_, _, _, _, _, _, _, _] _ 4 (v := Value.bool sl.x) rfl)
      have C1 := hid (LeftIs sb hb 24 first many S v12 _ _ _ rfl hV12)
      refine C1.out.mono ?_
      rintro e v13 ⟨rfl, hV13, b13⟩
      have bA := bA.trans b13
      have C2 := hid (RLeftIs tb rb 24 first many S v13 _ [StoA sb hb 24 first many S.F S.ps, MemA hb 24 S.W, blk w.heap.size 31 (keyC k)] _ rfl (hV13.pick [2, 3, 0, 1, 4]))
      clear ka0 ka1 ka2 kc0 kc1 kc2 sa0 sa1 sa2 sa3 sa4 sc0 sc1 sc2 sc3 sc4 C1 hV13 hV12 b13 hA1 bA1 b12 hV11 zs
      go_wp2_with fail
      refine C2.out.mono ?_
      rintro e v14 ⟨rfl, hV14, b14⟩
      have bA := bA.trans b14
      have hV14 : Has v14 w.heap.size (staL sb hb 24 first many S (rstaL tb rb 24 first many S ([blk w.heap.size 31 (keyC k)]))) := hV14.pick [2, 3, 0, 1, 4]
      clear C2 b14 hN1 hN2
      go_wp2_with fail
      go_upto_region 23 with fail
      go_cut [219] from 180 to 219 (fun s wx => s = .bool false ∧ Has wx w.heap.size (staL sb hb 24 first many S (rstaL tb rb 24 first many S ([blk w.heap.size 31 (keyC k)]))) ∧ Below w.heap.size w wx)
      case first =>
        have hD := hV14.drew
        have bD := bA.drew
        have c0 := hD.cell [_, _, _, _] _ 0 (v := .int .i64 k.g) rfl
        clear hV14 bA
        go_wp2_with fail
        refine wp_region_E [] (fun U => U.cell? ⟨w.heap.size, 0, none⟩ = some (.int .i64 k.g)) (by kernel_rfl) ?_ (fun hHeld => ?_)
        · exact c0
        clear c0
        generalize v14.drew = x0 at *
        refine wpE_take (i := 0) (oi := ?oi0z1) (v := ?v0z1) ?hi0z1 (by kernel_rfl) (by kernel_rfl) (by kernel_rfl) (by kernel_rfl) ?hQ0z1 ?hy0z1 (by assumption) ?rest0z1
        case hi0z1 => simp only [List.getElem?_toArray, List.getElem?_cons_succ, List.getElem?_cons_zero]; rfl
        case hQ0z1 => exact fun _ _ _ h => h
        case hy0z1 => refine Or.inl ⟨by rfl, ?_⟩; intro w hSw; (try dsimp only at hSw); go_simp; try with_reducible rfl
        try simp only [Act.put, List.setIfInBounds_toArray, List.set_cons_zero, List.set_cons_succ]
        refine wpE_take (i := 2) (oi := ?oi2z2) (v := ?v2z2) ?hi2z2 (by kernel_rfl) (by kernel_rfl) (by kernel_rfl) (by kernel_rfl) ?hQ2z2 ?hy2z2 (by assumption) ?rest2z2
        case hi2z2 => simp only [List.getElem?_toArray, List.getElem?_cons_succ, List.getElem?_cons_zero]; rfl
        case hQ2z2 => exact fun _ _ _ h => h
        case hy2z2 => refine Or.inl ⟨by rfl, ?_⟩; intro w hSw; (try dsimp only at hSw); go_simp; try with_reducible rfl
        try simp only [Act.put, List.setIfInBounds_toArray, List.set_cons_zero, List.set_cons_succ]
        obtain ⟨lsz3, hlsz3⟩ : ∃ l, S.ps.map (·.f) = l := ⟨_, rfl⟩
        have HLz3 := hid hlsz3
        clear hlsz3
        refine wpE_ready (rs := [1]) (by kernel_rfl) (by simp) ?_
        refine AllReadyE.cons rfl rfl (fun K hK => ?_) AllReadyE.nil
        go_simp
        refine (AllIs sb hb 24 first many S x0 _ _ lsz3 HLz3.out hD).mono ?_
        rintro e xaz3 ⟨aoz3, cpz3, rfl, haz3, baz3⟩
        dsimp only
        have c0 := haz3.cell [_, _, _, _, _] _ 0 (v := .int .i64 k.g) rfl
        refine hK.out _ _ ?_ (fun hHeld => ?_)
        · exact c0
        clear hK K
        try simp only [Act.put, List.setIfInBounds_toArray, List.set_cons_zero, List.set_cons_succ]
        clear c0
        have baz3 := bD.trans baz3
        have haz3 : Has xaz3 w.heap.size (rstaL tb rb 24 first many S [StoA sb hb 24 first many S.F S.ps, MemA hb 24 S.W, _, blk w.heap.size 31 (keyC k)]) := haz3.pick [3, 4, 0, 1, 2, 5]
        clear hD bD
        refine wpE_ready (rs := [3]) (by kernel_rfl) (by simp) ?_
        refine AllReadyE.cons rfl rfl (fun K hK => ?_) AllReadyE.nil
        go_simp
        refine (RAllIs tb rb 24 first many S xaz3 _ _ lsz3 HLz3.out haz3).mono ?_
        rintro e xbz3 ⟨boz3, dpz3, rfl, hbz3, bbz3⟩
        dsimp only
        have c0 := hbz3.cell [_, _, _, _, _, _] _ 0 (v := .int .i64 k.g) rfl
        refine hK.out _ _ ?_ (fun hHeld => ?_)
        · exact c0
        clear hK K
        try simp only [Act.put, List.setIfInBounds_toArray, List.set_cons_zero, List.set_cons_succ]
        clear c0
        have bbz3 := baz3.trans bbz3
        clear haz3 baz3
        refine wpE_ready (rs := [4]) (by kernel_rfl) (by simp) ?_
        refine AllReadyE.cons rfl rfl (fun K hK => ?_) AllReadyE.nil
        go_simp
        refine (sameInts_is _ _ _ _ lsz3 lsz3 true (by simp) xbz3 (srci_row [_, _, _, _, _] _ hbz3 rfl) (srci_row [_, _] _ hbz3 rfl) _ _ hbz3).mono ?_
        rintro e xcz3 ⟨rfl, hcz3, bcz3⟩
        dsimp only
        have c0 := hcz3.cell [_, _, _, _, _, _] _ 0 (v := .int .i64 k.g) rfl
        refine hK.out _ _ ?_ (fun hHeld => ?_)
        · exact c0
        clear hK K
        try simp only [Act.put, List.setIfInBounds_toArray, List.set_cons_zero, List.set_cons_succ]
        clear c0
        have bcz3 := bbz3.trans bcz3
        have hcz3 : Has xcz3 w.heap.size (staL sb hb 24 first many S (rstaL tb rb 24 first many S ([blk w.heap.size 31 (keyC k)]))) := hcz3.pick [3, 4, 0, 1, 6]
        clear hbz3 bbz3 HLz3
        refine wpE_take (i := 5) (oi := ?oi5z4) (v := ?v5z4) ?hi5z4 (by kernel_rfl) (by kernel_rfl) (by kernel_rfl) (by kernel_rfl) ?hQ5z4 ?hy5z4 (by assumption) ?rest5z4
        case hi5z4 => simp only [List.getElem?_toArray, List.getElem?_cons_succ, List.getElem?_cons_zero]; rfl
        case hQ5z4 => exact fun _ _ _ h => h
        case hy5z4 => refine Or.inl ⟨by rfl, ?_⟩; intro w hSw; (try dsimp only at hSw); go_simp; try with_reducible rfl
        try simp only [Act.put, List.setIfInBounds_toArray, List.set_cons_zero, List.set_cons_succ]
        refine wpE_take (i := 6) (oi := ?oi6z5) (v := ?v6z5) ?hi6z5 (by kernel_rfl) (by kernel_rfl) (by kernel_rfl) (by kernel_rfl) ?hQ6z5 ?hy6z5 (by assumption) ?rest6z5
        case hi6z5 => simp only [List.getElem?_toArray, List.getElem?_cons_succ, List.getElem?_cons_zero]; rfl
        case hQ6z5 => exact fun _ _ _ h => h
        case hy6z5 => refine Or.inl ⟨by rfl, ?_⟩; intro w hSw; (try dsimp only at hSw); go_simp; try with_reducible rfl
        try simp only [Act.put, List.setIfInBounds_toArray, List.set_cons_zero, List.set_cons_succ]
        refine wpE_take (i := 7) (oi := ?oi7z6) (v := ?v7z6) ?hi7z6 (by kernel_rfl) (by kernel_rfl) (by kernel_rfl) (by kernel_rfl) ?hQ7z6 ?hy7z6 (by assumption) ?rest7z6
        case hi7z6 => simp only [List.getElem?_toArray, List.getElem?_cons_succ, List.getElem?_cons_zero]; rfl
        case hQ7z6 => exact fun _ _ _ h => h
        case hy7z6 => refine Or.inl ⟨by rfl, ?_⟩; intro w hSw; (try dsimp only at hSw); go_simp; try with_reducible rfl
        try simp only [Act.put, List.setIfInBounds_toArray, List.set_cons_zero, List.set_cons_succ]
        refine wpE_take (i := 8) (oi := ?oi8z7) (v := ?v8z7) ?hi8z7 (by kernel_rfl) (by kernel_rfl) (by kernel_rfl) (by kernel_rfl) ?hQ8z7 ?hy8z7 (by assumption) ?rest8z7
        case hi8z7 => simp only [List.getElem?_toArray, List.getElem?_cons_succ, List.getElem?_cons_zero]; rfl
        case hQ8z7 => exact fun _ _ _ h => h
        case hy8z7 => refine Or.inl ⟨by rfl, ?_⟩; intro w hSw; (try dsimp only at hSw); go_simp; try with_reducible rfl
        try simp only [Act.put, List.setIfInBounds_toArray, List.set_cons_zero, List.set_cons_succ]
        refine wpE_take (i := 9) (oi := ?oi9z8) (v := ?v9z8) ?hi9z8 (by kernel_rfl) (by kernel_rfl) (by kernel_rfl) (by kernel_rfl) ?hQ9z8 ?hy9z8 (by assumption) ?rest9z8
        case hi9z8 => simp only [List.getElem?_toArray, List.getElem?_cons_succ, List.getElem?_cons_zero]; rfl
        case hQ9z8 => exact fun _ _ _ h => h
        case hy9z8 => refine Or.inl ⟨by rfl, ?_⟩; intro w hSw; (try dsimp only at hSw); go_simp; try with_reducible rfl
        try simp only [Act.put, List.setIfInBounds_toArray, List.set_cons_zero, List.set_cons_succ]
        refine wpE_take (i := 11) (oi := ?oi11z9) (v := ?v11z9) ?hi11z9 (by kernel_rfl) (by kernel_rfl) (by kernel_rfl) (by kernel_rfl) ?hQ11z9 ?hy11z9 (by assumption) ?rest11z9
        case hi11z9 => simp only [List.getElem?_toArray, List.getElem?_cons_succ, List.getElem?_cons_zero]; rfl
        case hQ11z9 => exact fun _ _ _ h => h
        case hy11z9 => refine Or.inl ⟨by rfl, ?_⟩; intro w hSw; (try dsimp only at hSw); go_simp; try with_reducible rfl
        try simp only [Act.put, List.setIfInBounds_toArray, List.set_cons_zero, List.set_cons_succ]
        refine wpE_take (i := 12) (oi := ?oi12z10) (v := ?v12z10) ?hi12z10 (by kernel_rfl) (by kernel_rfl) (by kernel_rfl) (by kernel_rfl) ?hQ12z10 ?hy12z10 (by assumption) ?rest12z10
        case hi12z10 => simp only [List.getElem?_toArray, List.getElem?_cons_succ, List.getElem?_cons_zero]; rfl
        case hQ12z10 => exact fun _ _ _ h => h
        case hy12z10 => refine Or.inl ⟨by rfl, ?_⟩; intro w hSw; (try dsimp only at hSw); go_simp; try with_reducible rfl
        try simp only [Act.put, List.setIfInBounds_toArray, List.set_cons_zero, List.set_cons_succ]
        refine wpE_take (i := 13) (oi := ?oi13z11) (v := ?v13z11) ?hi13z11 (by kernel_rfl) (by kernel_rfl) (by kernel_rfl) (by kernel_rfl) ?hQ13z11 ?hy13z11 (by assumption) ?rest13z11
        case hi13z11 => simp only [List.getElem?_toArray, List.getElem?_cons_succ, List.getElem?_cons_zero]; rfl
        case hQ13z11 => exact fun _ _ _ h => h
        case hy13z11 => refine Or.inl ⟨by rfl, ?_⟩; intro w hSw; (try dsimp only at hSw); go_simp; try with_reducible rfl
        try simp only [Act.put, List.setIfInBounds_toArray, List.set_cons_zero, List.set_cons_succ]
        obtain ⟨lsz12, hlsz12⟩ : ∃ l, framesOf (ofP k.g) S.ps = l := ⟨_, rfl⟩
        have HLz12 := hid hlsz12
        clear hlsz12
        refine wpE_ready (rs := [10]) (by kernel_rfl) (by simp) ?_
        refine AllReadyE.cons rfl rfl (fun K hK => ?_) AllReadyE.nil
        go_simp
        refine (OfIs sb hb 24 first many S xcz3 _ _ k.g lsz12 HLz12.out hcz3).mono ?_
        rintro e xaz12 ⟨aoz12, cpz12, rfl, haz12, baz12⟩
        dsimp only
        have c0 := haz12.cell [_, _, _, _, _] _ 0 (v := .int .i64 k.g) rfl
        refine hK.out _ _ ?_ (fun hHeld => ?_)
        · exact c0
        clear hK K
        try simp only [Act.put, List.setIfInBounds_toArray, List.set_cons_zero, List.set_cons_succ]
        clear c0
        have baz12 := bcz3.trans baz12
        have haz12 : Has xaz12 w.heap.size (rstaL tb rb 24 first many S [StoA sb hb 24 first many S.F S.ps, MemA hb 24 S.W, _, blk w.heap.size 31 (keyC k)]) := haz12.pick [3, 4, 0, 1, 2, 5]
        clear hcz3 bcz3
        refine wpE_ready (rs := [14]) (by kernel_rfl) (by simp) ?_
        refine AllReadyE.cons rfl rfl (fun K hK => ?_) AllReadyE.nil
        go_simp
        refine (ROfIs tb rb 24 first many S xaz12 _ _ k.g lsz12 HLz12.out haz12).mono ?_
        rintro e xbz12 ⟨boz12, dpz12, rfl, hbz12, bbz12⟩
        dsimp only
        have c0 := hbz12.cell [_, _, _, _, _, _] _ 0 (v := .int .i64 k.g) rfl
        refine hK.out _ _ ?_ (fun hHeld => ?_)
        · exact c0
        clear hK K
        try simp only [Act.put, List.setIfInBounds_toArray, List.set_cons_zero, List.set_cons_succ]
        clear c0
        have bbz12 := baz12.trans bbz12
        clear haz12 baz12
        refine wpE_ready (rs := [15]) (by kernel_rfl) (by simp) ?_
        refine AllReadyE.cons rfl rfl (fun K hK => ?_) AllReadyE.nil
        go_simp
        refine (sameInts_is _ _ _ _ lsz12 lsz12 true (by simp) xbz12 (srci_row [_, _, _, _, _] _ hbz12 rfl) (srci_row [_, _] _ hbz12 rfl) _ _ hbz12).mono ?_
        rintro e xcz12 ⟨rfl, hcz12, bcz12⟩
        dsimp only
        have c0 := hcz12.cell [_, _, _, _, _, _] _ 0 (v := .int .i64 k.g) rfl
        refine hK.out _ _ ?_ (fun hHeld => ?_)
        · exact c0
        clear hK K
        try simp only [Act.put, List.setIfInBounds_toArray, List.set_cons_zero, List.set_cons_succ]
        clear c0
        have bcz12 := bbz12.trans bcz12
        have hcz12 : Has xcz12 w.heap.size (staL sb hb 24 first many S (rstaL tb rb 24 first many S ([blk w.heap.size 31 (keyC k)]))) := hcz12.pick [3, 4, 0, 1, 6]
        clear hbz12 bbz12 HLz12
        refine wpE_take (i := 16) (oi := ?oi16z13) (v := ?v16z13) ?hi16z13 (by kernel_rfl) (by kernel_rfl) (by kernel_rfl) (by kernel_rfl) ?hQ16z13 ?hy16z13 (by assumption) ?rest16z13
        case hi16z13 => simp only [List.getElem?_toArray, List.getElem?_cons_succ, List.getElem?_cons_zero]; rfl
        case hQ16z13 => exact fun _ _ _ h => h
        case hy16z13 => refine Or.inl ⟨by rfl, ?_⟩; intro w hSw; (try dsimp only at hSw); go_simp; try with_reducible rfl
        try simp only [Act.put, List.setIfInBounds_toArray, List.set_cons_zero, List.set_cons_succ]
        refine wpE_take (i := 17) (oi := ?oi17z14) (v := ?v17z14) ?hi17z14 (by kernel_rfl) (by kernel_rfl) (by kernel_rfl) (by kernel_rfl) ?hQ17z14 ?hy17z14 (by assumption) ?rest17z14
        case hi17z14 => simp only [List.getElem?_toArray, List.getElem?_cons_succ, List.getElem?_cons_zero]; rfl
        case hQ17z14 => exact fun _ _ _ h => h
        case hy17z14 => refine Or.inl ⟨by rfl, ?_⟩; intro w hSw; (try dsimp only at hSw); go_simp; try with_reducible rfl
        try simp only [Act.put, List.setIfInBounds_toArray, List.set_cons_zero, List.set_cons_succ]
        refine wpE_take (i := 18) (oi := ?oi18z15) (v := ?v18z15) ?hi18z15 (by kernel_rfl) (by kernel_rfl) (by kernel_rfl) (by kernel_rfl) ?hQ18z15 ?hy18z15 (by assumption) ?rest18z15
        case hi18z15 => simp only [List.getElem?_toArray, List.getElem?_cons_succ, List.getElem?_cons_zero]; rfl
        case hQ18z15 => exact fun _ _ _ h => h
        case hy18z15 => refine Or.inl ⟨by rfl, ?_⟩; intro w hSw; (try dsimp only at hSw); go_simp; try with_reducible rfl
        try simp only [Act.put, List.setIfInBounds_toArray, List.set_cons_zero, List.set_cons_succ]
        refine wpE_take (i := 19) (oi := ?oi19z16) (v := ?v19z16) ?hi19z16 (by kernel_rfl) (by kernel_rfl) (by kernel_rfl) (by kernel_rfl) ?hQ19z16 ?hy19z16 (by assumption) ?rest19z16
        case hi19z16 => simp only [List.getElem?_toArray, List.getElem?_cons_succ, List.getElem?_cons_zero]; rfl
        case hQ19z16 => exact fun _ _ _ h => h
        case hy19z16 => refine Or.inl ⟨by rfl, ?_⟩; intro w hSw; (try dsimp only at hSw); go_simp; try with_reducible rfl
        try simp only [Act.put, List.setIfInBounds_toArray, List.set_cons_zero, List.set_cons_succ]
        refine wpE_take (i := 20) (oi := ?oi20z17) (v := ?v20z17) ?hi20z17 (by kernel_rfl) (by kernel_rfl) (by kernel_rfl) (by kernel_rfl) ?hQ20z17 ?hy20z17 (by assumption) ?rest20z17
        case hi20z17 => simp only [List.getElem?_toArray, List.getElem?_cons_succ, List.getElem?_cons_zero]; rfl
        case hQ20z17 => exact fun _ _ _ h => h
        case hy20z17 => refine Or.inl ⟨by rfl, ?_⟩; intro w hSw; (try dsimp only at hSw); go_simp; try with_reducible rfl
        try simp only [Act.put, List.setIfInBounds_toArray, List.set_cons_zero, List.set_cons_succ]
        refine wpE_take (i := 22) (oi := ?oi22z18) (v := ?v22z18) ?hi22z18 (by kernel_rfl) (by kernel_rfl) (by kernel_rfl) (by kernel_rfl) ?hQ22z18 ?hy22z18 (by assumption) ?rest22z18
        case hi22z18 => simp only [List.getElem?_toArray, List.getElem?_cons_succ, List.getElem?_cons_zero]; rfl
        case hQ22z18 => exact fun _ _ _ h => h
        case hy22z18 => refine Or.inl ⟨by rfl, ?_⟩; intro w hSw; (try dsimp only at hSw); go_simp; try with_reducible rfl
        try simp only [Act.put, List.setIfInBounds_toArray, List.set_cons_zero, List.set_cons_succ]
        refine wpE_take (i := 23) (oi := ?oi23z19) (v := ?v23z19) ?hi23z19 (by kernel_rfl) (by kernel_rfl) (by kernel_rfl) (by kernel_rfl) ?hQ23z19 ?hy23z19 (by assumption) ?rest23z19
        case hi23z19 => simp only [List.getElem?_toArray, List.getElem?_cons_succ, List.getElem?_cons_zero]; rfl
        case hQ23z19 => exact fun _ _ _ h => h
        case hy23z19 => refine Or.inl ⟨by rfl, ?_⟩; intro w hSw; (try dsimp only at hSw); go_simp; try with_reducible rfl
        try simp only [Act.put, List.setIfInBounds_toArray, List.set_cons_zero, List.set_cons_succ]
        obtain ⟨lsz20, hlsz20⟩ : ∃ l, toldL 1 p (allS S.ps) = l := ⟨_, rfl⟩
        have HLz20 := hid hlsz20
        clear hlsz20
        refine wpE_ready (rs := [21]) (by kernel_rfl) (by simp) ?_
        refine AllReadyE.cons rfl rfl (fun K hK => ?_) AllReadyE.nil
        go_simp
        refine (ParentsIs sb hb 24 first many S xcz12 _ _ p lsz20 HLz20.out hcz12).mono ?_
        rintro e xaz20 ⟨aoz20, cpz20, rfl, haz20, baz20⟩
        dsimp only
        have c0 := haz20.cell [_, _, _, _, _] _ 0 (v := .int .i64 k.g) rfl
        refine hK.out _ _ ?_ (fun hHeld => ?_)
        · exact c0
        clear hK K
        try simp only [Act.put, List.setIfInBounds_toArray, List.set_cons_zero, List.set_cons_succ]
        clear c0
        have baz20 := bcz12.trans baz20
        have haz20 : Has xaz20 w.heap.size (rstaL tb rb 24 first many S [StoA sb hb 24 first many S.F S.ps, MemA hb 24 S.W, _, blk w.heap.size 31 (keyC k)]) := haz20.pick [3, 4, 0, 1, 2, 5]
        clear hcz12 bcz12
        refine wpE_ready (rs := [24]) (by kernel_rfl) (by simp) ?_
        refine AllReadyE.cons rfl rfl (fun K hK => ?_) AllReadyE.nil
        go_simp
        refine (RParentsIs tb rb 24 first many S xaz20 _ _ p lsz20 HLz20.out haz20).mono ?_
        rintro e xbz20 ⟨boz20, dpz20, rfl, hbz20, bbz20⟩
        dsimp only
        have c0 := hbz20.cell [_, _, _, _, _, _] _ 0 (v := .int .i64 k.g) rfl
        refine hK.out _ _ ?_ (fun hHeld => ?_)
        · exact c0
        clear hK K
        try simp only [Act.put, List.setIfInBounds_toArray, List.set_cons_zero, List.set_cons_succ]
        clear c0
        have bbz20 := baz20.trans bbz20
        clear haz20 baz20
        refine wpE_ready (rs := [25]) (by kernel_rfl) (by simp) ?_
        refine AllReadyE.cons rfl rfl (fun K hK => ?_) AllReadyE.nil
        go_simp
        refine (sameAts_is _ _ _ _ lsz20 lsz20 true (by simp) xbz20 (srca_row [_, _, _, _, _] _ hbz20 rfl) (srca_row [_, _] _ hbz20 rfl) _ _ hbz20).mono ?_
        rintro e xcz20 ⟨rfl, hcz20, bcz20⟩
        dsimp only
        have c0 := hcz20.cell [_, _, _, _, _, _] _ 0 (v := .int .i64 k.g) rfl
        refine hK.out _ _ ?_ (fun hHeld => ?_)
        · exact c0
        clear hK K
        try simp only [Act.put, List.setIfInBounds_toArray, List.set_cons_zero, List.set_cons_succ]
        clear c0
        have bcz20 := bbz20.trans bcz20
        have hcz20 : Has xcz20 w.heap.size (staL sb hb 24 first many S (rstaL tb rb 24 first many S ([blk w.heap.size 31 (keyC k)]))) := hcz20.pick [3, 4, 0, 1, 6]
        clear hbz20 bbz20 HLz20
        refine wpE_take (i := 26) (oi := ?oi26z21) (v := ?v26z21) ?hi26z21 (by kernel_rfl) (by kernel_rfl) (by kernel_rfl) (by kernel_rfl) ?hQ26z21 ?hy26z21 (by assumption) ?rest26z21
        case hi26z21 => simp only [List.getElem?_toArray, List.getElem?_cons_succ, List.getElem?_cons_zero]; rfl
        case hQ26z21 => exact fun _ _ _ h => h
        case hy26z21 => refine Or.inl ⟨by rfl, ?_⟩; intro w hSw; (try dsimp only at hSw); go_simp; try with_reducible rfl
        try simp only [Act.put, List.setIfInBounds_toArray, List.set_cons_zero, List.set_cons_succ]
        refine wpE_take (i := 27) (oi := ?oi27z22) (v := ?v27z22) ?hi27z22 (by kernel_rfl) (by kernel_rfl) (by kernel_rfl) (by kernel_rfl) ?hQ27z22 ?hy27z22 (by assumption) ?rest27z22
        case hi27z22 => simp only [List.getElem?_toArray, List.getElem?_cons_succ, List.getElem?_cons_zero]; rfl
        case hQ27z22 => exact fun _ _ _ h => h
        case hy27z22 => refine Or.inl ⟨by rfl, ?_⟩; intro w hSw; (try dsimp only at hSw); go_simp; try with_reducible rfl
        try simp only [Act.put, List.setIfInBounds_toArray, List.set_cons_zero, List.set_cons_succ]
        refine wpE_take (i := 28) (oi := ?oi28z23) (v := ?v28z23) ?hi28z23 (by kernel_rfl) (by kernel_rfl) (by kernel_rfl) (by kernel_rfl) ?hQ28z23 ?hy28z23 (by assumption) ?rest28z23
        case hi28z23 => simp only [List.getElem?_toArray, List.getElem?_cons_succ, List.getElem?_cons_zero]; rfl
        case hQ28z23 => exact fun _ _ _ h => h
        case hy28z23 => refine Or.inl ⟨by rfl, ?_⟩; intro w hSw; (try dsimp only at hSw); go_simp; try with_reducible rfl
        try simp only [Act.put, List.setIfInBounds_toArray, List.set_cons_zero, List.set_cons_succ]
        refine wpE_take (i := 29) (oi := ?oi29z24) (v := ?v29z24) ?hi29z24 (by kernel_rfl) (by kernel_rfl) (by kernel_rfl) (by kernel_rfl) ?hQ29z24 ?hy29z24 (by assumption) ?rest29z24
        case hi29z24 => simp only [List.getElem?_toArray, List.getElem?_cons_succ, List.getElem?_cons_zero]; rfl
        case hQ29z24 => exact fun _ _ _ h => h
        case hy29z24 => refine Or.inl ⟨by rfl, ?_⟩; intro w hSw; (try dsimp only at hSw); go_simp; try with_reducible rfl
        try simp only [Act.put, List.setIfInBounds_toArray, List.set_cons_zero, List.set_cons_succ]
        refine wpE_take (i := 30) (oi := ?oi30z25) (v := ?v30z25) ?hi30z25 (by kernel_rfl) (by kernel_rfl) (by kernel_rfl) (by kernel_rfl) ?hQ30z25 ?hy30z25 (by assumption) ?rest30z25
        case hi30z25 => simp only [List.getElem?_toArray, List.getElem?_cons_succ, List.getElem?_cons_zero]; rfl
        case hQ30z25 => exact fun _ _ _ h => h
        case hy30z25 => refine Or.inl ⟨by rfl, ?_⟩; intro w hSw; (try dsimp only at hSw); go_simp; try with_reducible rfl
        try simp only [Act.put, List.setIfInBounds_toArray, List.set_cons_zero, List.set_cons_succ]
        refine wpE_take (i := 31) (oi := ?oi31z26) (v := ?v31z26) ?hi31z26 (by kernel_rfl) (by kernel_rfl) (by kernel_rfl) (by kernel_rfl) ?hQ31z26 ?hy31z26 (by assumption) ?rest31z26
        case hi31z26 => simp only [List.getElem?_toArray, List.getElem?_cons_succ, List.getElem?_cons_zero]; rfl
        case hQ31z26 => exact fun _ _ _ h => h
        case hy31z26 => refine Or.inl ⟨by rfl, ?_⟩; intro w hSw; (try dsimp only at hSw); go_simp; try with_reducible rfl
        try simp only [Act.put, List.setIfInBounds_toArray, List.set_cons_zero, List.set_cons_succ]
        refine wpE_take (i := 33) (oi := ?oi33z27) (v := ?v33z27) ?hi33z27 (by kernel_rfl) (by kernel_rfl) (by kernel_rfl) (by kernel_rfl) ?hQ33z27 ?hy33z27 (by assumption) ?rest33z27
        case hi33z27 => simp only [List.getElem?_toArray, List.getElem?_cons_succ, List.getElem?_cons_zero]; rfl
        case hQ33z27 => exact fun _ _ _ h => h
        case hy33z27 => refine Or.inl ⟨by rfl, ?_⟩; intro w hSw; (try dsimp only at hSw); go_simp; try with_reducible rfl
        try simp only [Act.put, List.setIfInBounds_toArray, List.set_cons_zero, List.set_cons_succ]
        refine wpE_take (i := 34) (oi := ?oi34z28) (v := ?v34z28) ?hi34z28 (by kernel_rfl) (by kernel_rfl) (by kernel_rfl) (by kernel_rfl) ?hQ34z28 ?hy34z28 (by assumption) ?rest34z28
        case hi34z28 => simp only [List.getElem?_toArray, List.getElem?_cons_succ, List.getElem?_cons_zero]; rfl
        case hQ34z28 => exact fun _ _ _ h => h
        case hy34z28 => refine Or.inl ⟨by rfl, ?_⟩; intro w hSw; (try dsimp only at hSw); go_simp; try with_reducible rfl
        try simp only [Act.put, List.setIfInBounds_toArray, List.set_cons_zero, List.set_cons_succ]
        refine wpE_take (i := 35) (oi := ?oi35z29) (v := ?v35z29) ?hi35z29 (by kernel_rfl) (by kernel_rfl) (by kernel_rfl) (by kernel_rfl) ?hQ35z29 ?hy35z29 (by assumption) ?rest35z29
        case hi35z29 => simp only [List.getElem?_toArray, List.getElem?_cons_succ, List.getElem?_cons_zero]; rfl
        case hQ35z29 => exact fun _ _ _ h => h
        case hy35z29 => refine Or.inl ⟨by rfl, ?_⟩; intro w hSw; (try dsimp only at hSw); go_simp; try with_reducible rfl
        try simp only [Act.put, List.setIfInBounds_toArray, List.set_cons_zero, List.set_cons_succ]
        obtain ⟨lsz30, hlsz30⟩ : ∃ l, toldL 2 k.g (allS S.ps) = l := ⟨_, rfl⟩
        have HLz30 := hid hlsz30
        clear hlsz30
        refine wpE_ready (rs := [32]) (by kernel_rfl) (by simp) ?_
        refine AllReadyE.cons rfl rfl (fun K hK => ?_) AllReadyE.nil
        go_simp
        refine (LeavesIs sb hb 24 first many S xcz20 _ _ k.g lsz30 HLz30.out hcz20).mono ?_
        rintro e xaz30 ⟨aoz30, cpz30, rfl, haz30, baz30⟩
        dsimp only
        have c0 := haz30.cell [_, _, _, _, _] _ 0 (v := .int .i64 k.g) rfl
        refine hK.out _ _ ?_ (fun hHeld => ?_)
        · exact c0
        clear hK K
        try simp only [Act.put, List.setIfInBounds_toArray, List.set_cons_zero, List.set_cons_succ]
        clear c0
        have baz30 := bcz20.trans baz30
        have haz30 : Has xaz30 w.heap.size (rstaL tb rb 24 first many S [StoA sb hb 24 first many S.F S.ps, MemA hb 24 S.W, _, blk w.heap.size 31 (keyC k)]) := haz30.pick [3, 4, 0, 1, 2, 5]
        clear hcz20 bcz20
        refine wpE_ready (rs := [36]) (by kernel_rfl) (by simp) ?_
        refine AllReadyE.cons rfl rfl (fun K hK => ?_) AllReadyE.nil
        go_simp
        refine (RLeavesIs tb rb 24 first many S xaz30 _ _ k.g lsz30 HLz30.out haz30).mono ?_
        rintro e xbz30 ⟨boz30, dpz30, rfl, hbz30, bbz30⟩
        dsimp only
        have c0 := hbz30.cell [_, _, _, _, _, _] _ 0 (v := .int .i64 k.g) rfl
        refine hK.out _ _ ?_ (fun hHeld => ?_)
        · exact c0
        clear hK K
        try simp only [Act.put, List.setIfInBounds_toArray, List.set_cons_zero, List.set_cons_succ]
        clear c0
        have bbz30 := baz30.trans bbz30
        clear haz30 baz30
        refine wpE_ready (rs := [37]) (by kernel_rfl) (by simp) ?_
        refine AllReadyE.cons rfl rfl (fun K hK => ?_) AllReadyE.nil
        go_simp
        refine (sameAts_is _ _ _ _ lsz30 lsz30 true (by simp) xbz30 (srca_row [_, _, _, _, _] _ hbz30 rfl) (srca_row [_, _] _ hbz30 rfl) _ _ hbz30).mono ?_
        rintro e xcz30 ⟨rfl, hcz30, bcz30⟩
        dsimp only
        have c0 := hcz30.cell [_, _, _, _, _, _] _ 0 (v := .int .i64 k.g) rfl
        refine hK.out _ _ ?_ (fun hHeld => ?_)
        · exact c0
        clear hK K
        try simp only [Act.put, List.setIfInBounds_toArray, List.set_cons_zero, List.set_cons_succ]
        clear c0
        have bcz30 := bbz30.trans bcz30
        have hcz30 : Has xcz30 w.heap.size (staL sb hb 24 first many S (rstaL tb rb 24 first many S ([blk w.heap.size 31 (keyC k)]))) := hcz30.pick [3, 4, 0, 1, 6]
        clear hbz30 bbz30 HLz30
        refine wpE_take (i := 38) (oi := ?oi38z31) (v := ?v38z31) ?hi38z31 (by kernel_rfl) (by kernel_rfl) (by kernel_rfl) (by kernel_rfl) ?hQ38z31 ?hy38z31 (by assumption) ?rest38z31
        case hi38z31 => simp only [List.getElem?_toArray, List.getElem?_cons_succ, List.getElem?_cons_zero]; rfl
        case hQ38z31 => exact fun _ _ _ h => h
        case hy38z31 => refine Or.inl ⟨by rfl, ?_⟩; intro w hSw; (try dsimp only at hSw); go_simp; try with_reducible rfl
        try simp only [Act.put, List.setIfInBounds_toArray, List.set_cons_zero, List.set_cons_succ]
        refine wpE_take (i := 39) (oi := ?oi39z32) (v := ?v39z32) ?hi39z32 (by kernel_rfl) (by kernel_rfl) (by kernel_rfl) (by kernel_rfl) ?hQ39z32 ?hy39z32 (by assumption) ?rest39z32
        case hi39z32 => simp only [List.getElem?_toArray, List.getElem?_cons_succ, List.getElem?_cons_zero]; rfl
        case hQ39z32 => exact fun _ _ _ h => h
        case hy39z32 => refine Or.inl ⟨by rfl, ?_⟩; intro w hSw; (try dsimp only at hSw); go_simp; try with_reducible rfl
        try simp only [Act.put, List.setIfInBounds_toArray, List.set_cons_zero, List.set_cons_succ]
        refine wpE_done (by kernel_rfl) ?_ _
        go_wp2_with fail
        go_meet
        case rel => exact ⟨rfl, hcz30, bcz30⟩
      case rest =>
        obtain ⟨rfl, hW, bW⟩ := hcut
        clear hV14 bA
        go_wp2_with fail
        go_roundg (gk - 1)
        case measure => have := HJ.out; omega
        case rel => exact ⟨j + 1, by have := HJ.out; omega, by go_num, by rw [HRS.out]; exact hW, bW⟩
    · skip
      obtain rfl : j = l.length := by have := HJ.out; omega
      rw [List.take_length] at hHr
      obtain ⟨S, hS⟩ : ∃ S, runS 24 ⟨List.replicate (24 * 8) 0, freshL first many 0, []⟩ l = S := ⟨_, rfl⟩
      rw [hS] at hHr
      clear hj HJ hlt hS HOK HA
      go_wp2_with fail
      go_loopg [35] 24 (fun g i wr => ∃ j : Nat, g + j = 24 ∧ i = .int .i64 j ∧ Has wr w.heap.size (staL sb hb 24 first many S (rstaL tb rb 24 first many S ([blk w.heap.size 31 (keyC k)]))) ∧ Below w.heap.size w wr)
      case atStart => exact ⟨0, by omega, rfl, hHr, hBr⟩
      case round =>
        clear hHr hBr
        obtain ⟨j, hj, rfl, hHr, hBr⟩ := hrel
        have HJ := hid hj
        clear hj
        by_cases hlt : j < 24
        · have hlt' : (j : Int) < 24 := by omega
          have C1 := hid (Frame_calls hb 24 S.W j wr _ [StoA sb hb 24 first many S.F S.ps, RStA tb rb 24 first many S.F S.ps, RMemA rb 24 S.W, blk w.heap.size 31 (keyC k)] (hHr.pick [1, 0, 2, 3, 4]))
          clear hHr
          go_wp2_with fail
          refine C1.out.mono ?_
          rintro e v1 ⟨u1, rfl, hV1, b1⟩
          have bA := hBr.trans b1
          obtain ⟨ao1, cp1, hu1, _⟩ := hV1.row_form [] _
          subst hu1
          have C2 := hid (RFrame_calls rb 24 S.W j v1 _ [row 55 1 (.slice ao1 (frameW S.W 24 j).length cp1) (frameW S.W 24 j).length (u64s (frameW S.W 24 j)), MemA hb 24 S.W, StoA sb hb 24 first many S.F S.ps, RStA tb rb 24 first many S.F S.ps, blk w.heap.size 31 (keyC k)] (hV1.pick [4, 0, 1, 2, 3, 5]))
          clear C1 hV1 b1 hBr
          go_wp2_with fail
          refine C2.out.mono ?_
          rintro e v2 ⟨u2, rfl, hV2, b2⟩
          have bA := bA.trans b2
          obtain ⟨ao2, cp2, hu2, _⟩ := hV2.row_form [] _
          subst hu2
          have C3 := hid (keeps (SameWords_calls ao1 ao2 cp1 cp2 (frameW S.W 24 j) (frameW S.W 24 j) v2 (srcu_row [_, _] _ hV2 rfl) (srcu_row [] _ hV2 rfl)) hV2)
          clear C2 hV2 b2
          go_wp2_with fail
          refine C3.out.mono ?_
          rintro e v3 ⟨rfl, hV3, b3⟩
          have bA := bA.trans b3
          have hV3 : Has v3 w.heap.size (staL sb hb 24 first many S (rstaL tb rb 24 first many S ([blk w.heap.size 31 (keyC k)]))) := hV3.pick [4, 3, 5, 1, 6]
          have es : (frameW S.W 24 j == frameW S.W 24 j) = true := by simp
          rw [es]
          clear C3 b3 es
          go_wp2_with fail
          go_roundg (gk - 1)
          case measure => have := HJ.out; omega
          case rel => exact ⟨j + 1, by have := HJ.out; omega, by go_num, hV3, bA⟩
        · obtain rfl : j = 24 := by have := HJ.out; omega
          clear HJ hlt
          go_wp2_with fail
          go_ret
          exact ⟨rfl, hBr⟩

end Go.Proofs.Yteeapkndappnoaa
