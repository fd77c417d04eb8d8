/-
  Texts of this proof, merged in their order: RstG, RstH, RstI, RegX, RegE, RstJ, RstK.
-/
import Derived.Test.YteeapkndappnoaaMg4
import Derived.Test.YteeapkndappnoaaMg2
import Derived.Deep.RegionHeld3
import Derived.OwnWalk
import Derived.Deep.CutRange
/-
  The document's store: set over the whole state; Clear.
-/
namespace Go.Proofs.Yteeapkndappnoaa
open Go.RowKit Go.Shelf
set_option linter.unusedVariables false
set_option linter.unusedSimpArgs false

theorem rset_slots {q : List (Value × PageS)} {j : Nat} {x : Value × PageS} (hx : q[j]? = some x) (hnd : ((q.map Prod.snd).map (·.f)).Nodup) (k : Nat) (y : SlotS) (u : Value) : (q.set j (u, { x.2 with s := x.2.s.set k y })).map Prod.snd = setSlot (q.map Prod.snd) x.2.f k y := by
  unfold setSlot
  refine List.ext_getElem? fun i => ?_
  simp only [List.getElem?_map, List.getElem?_set]
  obtain ⟨h1, h2⟩ := List.getElem?_eq_some_iff.1 hx
  by_cases e : j = i
  · subst e
    simp [h1, h2]
  · rw [if_neg e]
    cases hi : q[i]? with
    | none => rfl
    | some z =>
      have hne : z.2.f ≠ x.2.f := by
        intro he
        obtain ⟨h3, h4⟩ := List.getElem?_eq_some_iff.1 hi
        have := (List.getElem_inj (i := j) (j := i) (h₀ := by simpa using h1) (h₁ := by simpa using h3) hnd).1 (by simp [h2, h4, he])
        exact e this
      simp [hne]
theorem rset_is (sb hb n : Nat) (first many : Int) (S : StS) (f i h : Int) (y : SlotS) (j : Nat) (hj : atN S.ps f = some j) (hs : (slotAt S.ps f i).isSome = true) (w : World) (B : Nat) (X : List Asr) (hH : Has w B (rstaL sb hb n first many S X)) :
    Calls Try.prog 81 #[.pointer (some ⟨sb, 0, none⟩), .int .i64 (j : Int), .int .i64 i, .agg (slotC y), .int .i64 h] w fun e w' => e = .returned (.tuple #[]) ∧ Has w' B (rstaL sb hb n first many (putS n S f i y h) X) ∧ Below B w w' := by
  obtain ⟨hP, fb, v, q, hqp, hl, hO⟩ := RStA.openX hH
  obtain ⟨y0, hy0⟩ := Option.isSome_iff_exists.1 hs
  obtain ⟨hi0, hi8⟩ := slotAt_range hy0
  obtain ⟨k, rfl⟩ : ∃ k : Nat, i = (k : Int) := ⟨i.toNat, by omega⟩
  rw [← hqp] at hj hP
  obtain ⟨⟨xv, p⟩, hx, hxf, _⟩ := at_page hj
  dsimp only at hxf
  subst hxf
  have hp8 : p.s.length = 8 := hP.s8 p (List.mem_map.2 ⟨(xv, p), List.mem_of_getElem? hx, rfl⟩)
  refine (Rset_calls sb hb n fb v first many S.F S.W q j k p xv y h hl hx hp8 (by omega) w B X hO).mono ?_
  rintro e w' ⟨rfl, ⟨u, hH'⟩, hB'⟩
  refine ⟨rfl, ?_, hB'⟩
  have hsl : (q.set j (u, { p with s := p.s.set k y })).map Prod.snd = setSlot (q.map Prod.snd) p.f k y := rset_slots hx hP.nd k y u
  have hP2 := hP.put p.f k y
  rw [← hsl] at hP2
  have h1 := RStA.shut fb v _ hP2 hH'
  rw [hsl, hqp] at h1
  exact h1

theorem rat_is (sb hb n : Nat) (first many : Int) (S : StS) (f : Int) (j : Nat) (hj : atN S.ps f = some j) (w : World) (B : Nat) (X : List Asr) (hH : Has w B (rstaL sb hb n first many S X)) :
    Calls Try.prog 71 #[.pointer (some ⟨sb, 0, none⟩), .int .i64 f] w fun e w' => e = .returned (.int .i64 (j : Int)) ∧ w = w' := by
  obtain ⟨hP, fb, v, q, hqp, hl, hO⟩ := RStA.openX hH
  rw [← hqp] at hj
  exact at_yes sb v q f j hj hl w (hO.cell [] _ 2 (v := v) rfl) (rstX_R hO)
theorem rat_not (sb hb n : Nat) (first many : Int) (S : StS) (f : Int) (hj : atN S.ps f = none) (w : World) (B : Nat) (X : List Asr) (hH : Has w B (rstaL sb hb n first many S X)) :
    Calls Try.prog 71 #[.pointer (some ⟨sb, 0, none⟩), .int .i64 f] w fun e w' => e = .returned (.int .i64 (-1)) ∧ w = w' := by
  obtain ⟨hP, fb, v, q, hqp, hl, hO⟩ := RStA.openX hH
  rw [← hqp] at hj
  exact at_no sb v q f hj hl w (hO.cell [] _ 2 (v := v) rfl) (rstX_R hO)

set_option maxHeartbeats 1000000 in
theorem RClear_calls (sb hb n : Nat) (first many : Int) (S : StS) (f i : Int) (w : World) (B : Nat) (X : List Asr) (hH : Has w B (rstaL sb hb n first many S X)) :
    Calls Try.prog 69 #[.pointer (some ⟨sb, 0, none⟩), .int .i64 f, .int .i64 i] w fun e w' => e = .returned (.bool (clearB S f i)) ∧ Has w' B (rstaL sb hb n first many (clearS n S f i) X) ∧ Below B w w' := by
  obtain ⟨yy, hyy⟩ : ∃ yy, (slotAt S.ps f i).getD slotZ = yy := ⟨_, rfl⟩
  obtain ⟨bs, hbs⟩ : ∃ bs, (slotAt S.ps f i).isSome = bs := ⟨_, rfl⟩
  have CS := RSlot_calls sb hb n first many S.F S.ps f i w B _ hH
  rw [hyy, hbs] at CS
  have CS := hid CS
  have hcv : clearB S f i = (bs && yy.kd != 0) := by
    unfold clearB
    rw [← hyy, ← hbs]
    cases slotAt S.ps f i <;> rfl
  have hst : clearB S f i = false → clearS n S f i = S := fun h => by unfold clearS; rw [h]; rfl
  have hst2 : clearB S f i = true → clearS n S f i = putS n S f i slotZ 0 := fun h => by unfold clearS; rw [h]; rfl
  rw [hcv] at hst hst2 ⊢
  have H1 := hid hst
  have H2 := hid hst2
  have HBS := hid hbs
  have zs := zeroSlotL
  have tok : True := trivial
  clear hH hyy hbs hcv hst hst2
  cases bs with
  | false =>
    go_enter Try.func69, Try.ntmps69
    go_wp2_with fail
    refine CS.out.mono ?_
    rintro e w2 ⟨rfl, hH2, hB2⟩
    have hA := hH2.newblk w2.heap.size 42 #[.int .i64 0, .int .i64 0, .bool false, .bool false, .bool false] rfl
    have bA := below_new hB2 hH2 (.cells #[.int .i64 0, .int .i64 0, .bool false, .bool false, .bool false] 42)
    clear CS
    go_wp2_with (have _t := tok; refine wpList_store_all [] _ hA 42 (.tmp 7) (.tmp 14) rfl rfl rfl (slotC yy) rfl slot_size rfl (slot_one _) ?_; clear _t tok; intro w3 hH3 hB3 hz3; clear hz3)
    go_ret
    exact ⟨rfl, by rw [H1.out rfl]; exact hH3.drop, bA.trans hB3⟩
  | true =>
    by_cases hk : yy.kd = 0
    · have e1 : (yy.kd == 0) = true := by rw [beq_iff_eq]; exact hk
      have e2 : (yy.kd != 0) = false := by rw [hk]; rfl
      rw [e2] at H1 ⊢
      clear hk
      go_enter Try.func69, Try.ntmps69
      go_wp2_with fail
      refine CS.out.mono ?_
      rintro e w2 ⟨rfl, hH2, hB2⟩
      have hA := hH2.newblk w2.heap.size 42 #[.int .i64 0, .int .i64 0, .bool false, .bool false, .bool false] rfl
      have bA := below_new hB2 hH2 (.cells #[.int .i64 0, .int .i64 0, .bool false, .bool false, .bool false] 42)
      clear CS
      go_wp2_with (have _t := tok; refine wpList_store_all [] _ hA 42 (.tmp 7) (.tmp 14) rfl rfl rfl (slotC yy) rfl slot_size rfl (slot_one _) ?_; clear _t tok; intro w3 hH3 hB3 hz3; clear hz3; have y0 := hH3.cell [] _ 0 (v := .int .i64 yy.kd) rfl)
      go_ret
      exact ⟨rfl, by rw [H1.out rfl]; exact hH3.drop, bA.trans hB3⟩
    · have e1 : (yy.kd == 0) = false := by rw [beq_eq_false_iff_ne]; exact hk
      have e2 : (yy.kd != 0) = true := by simpa using hk
      rw [e2] at H2 ⊢
      clear hk
      have hpg : ∃ j, atN S.ps f = some j := by
        cases h : atN S.ps f with
        | some j => exact ⟨j, rfl⟩
        | none =>
          have h1 := HBS.out
          rw [slotAt_no (atN_not h)] at h1
          exact absurd h1 (by decide)
      obtain ⟨j, hj⟩ := hpg
      have HJ := hid hj
      clear hj
      go_enter Try.func69, Try.ntmps69
      go_wp2_with fail
      refine CS.out.mono ?_
      rintro e w2 ⟨rfl, hH2, hB2⟩
      have hA := hH2.newblk w2.heap.size 42 #[.int .i64 0, .int .i64 0, .bool false, .bool false, .bool false] rfl
      have bA := below_new hB2 hH2 (.cells #[.int .i64 0, .int .i64 0, .bool false, .bool false, .bool false] 42)
      clear CS
      go_wp2_with (have _t := tok; refine wpList_store_all [] _ hA 42 (.tmp 7) (.tmp 14) rfl rfl rfl (slotC yy) rfl slot_size rfl (slot_one _) ?_; clear _t tok; intro w3 hH3 hB3 hz3; clear hz3; have y0 := hH3.cell [] _ 0 (v := .int .i64 yy.kd) rfl)
      have bB := bA.trans hB3
      have hH4 : Has w3 B (rstaL sb hb n first many S X) := hH3.drop
      refine (rat_is sb hb n first many S f j HJ.out w3 B X hH4).mono ?_
      rintro e w4 ⟨rfl, rfl⟩
      go_wp2_with fail
      refine (rset_is sb hb n first many S f i 0 slotZ j HJ.out HBS.out w3 B X hH4).mono ?_
      rintro e w5 ⟨rfl, hH5, hB5⟩
      go_wp2_with fail
      go_ret
      exact ⟨rfl, by rw [H2.out rfl]; exact hH5, bB.trans hB5⟩

end Go.Proofs.Yteeapkndappnoaa

/-
  The document's store: Child.
-/
namespace Go.Proofs.Yteeapkndappnoaa
open Go.RowKit Go.Shelf
set_option linter.unusedVariables false
set_option linter.unusedSimpArgs false

set_option maxHeartbeats 4000000 in
theorem RChild_calls (sb hb n : Nat) (first many : Int) (S : StS) (f i c : Int) (r : Bool × Bool × Bool) (w : World) (B : Nat) (X : List Asr) (hH : Has w B (rstaL sb hb n first many S X)) :
    Calls Try.prog 67 #[.pointer (some ⟨sb, 0, none⟩), .int .i64 f, .int .i64 i, .int .i64 c, .agg (rArr r)] w fun e w' => e = .returned (.bool (childB S f i c)) ∧ Has w' B (rstaL sb hb n first many (childS n S f i c r) X) ∧ Below B w w' := by
  have hP := RStA.fits hH
  have hN1 := hH.newblk w.heap.size 33 (rArr r) rfl
  have bN := below_new (Below.refl B w) hH (.cells (rArr r) 33)
  have hN : Has (w.alloc (.cells (rArr r) 33)) B (rstaL sb hb n first many S (blk w.heap.size 33 (rArr r) :: X)) := toX hN1
  cases hj : atN S.ps f with
  | none =>
    have C1 := hid (rat_not sb hb n first many S f hj _ B _ hN)
    cases hm : atN S.ps c with
    | none =>
      have C2 := hid (rat_not sb hb n first many S c hm _ B _ hN)
      have HS := hid (show childB S f i c = false ∧ childS n S f i c r = S from by
        have h1 : childB S f i c = false := by unfold childB; rw [slotAt_no (atN_not hj)]; rfl
        exact ⟨h1, by unfold childS; rw [h1]; rfl⟩)
      rw [HS.out.1]
      clear hH hP hN hj hm
      go_enter Try.func67, Try.ntmps67
      go_wp2_with fail
      refine (C1.out).mono ?_
      rintro e w2 ⟨rfl, rfl⟩
      go_wp2_with fail
      refine (C2.out).mono ?_
      rintro e w3 ⟨rfl, rfl⟩
      clear C1 C2
      go_wp2_with fail
      go_quiet (fail)
      go_wp2_with fail
      go_ret
      exact ⟨rfl, by rw [HS.out.2]; exact (hN1.drop).drewN nq, below_drewNS bN nq⟩
    | some m =>
      have C2 := hid (rat_is sb hb n first many S c m hm _ B _ hN)
      have HS := hid (show childB S f i c = false ∧ childS n S f i c r = S from by
        have h1 : childB S f i c = false := by unfold childB; rw [slotAt_no (atN_not hj)]; rfl
        exact ⟨h1, by unfold childS; rw [h1]; rfl⟩)
      rw [HS.out.1]
      clear hH hP hN hj hm
      go_enter Try.func67, Try.ntmps67
      go_wp2_with fail
      refine (C1.out).mono ?_
      rintro e w2 ⟨rfl, rfl⟩
      go_wp2_with fail
      refine (C2.out).mono ?_
      rintro e w3 ⟨rfl, rfl⟩
      clear C1 C2
      go_wp2_with fail
      go_quiet (fail)
      go_wp2_with fail
      go_ret
      exact ⟨rfl, by rw [HS.out.2]; exact (hN1.drop).drewN nq, below_drewNS bN nq⟩
  | some j =>
    have C1 := hid (rat_is sb hb n first many S f j hj _ B _ hN)
    have j0 : decide ((j : Int) < 0) = false := decide_eq_false (by omega)
    cases hm : atN S.ps c with
    | none =>
      have C2 := hid (rat_not sb hb n first many S c hm _ B _ hN)
      have HS := hid (show childB S f i c = false ∧ childS n S f i c r = S from by
        have h1 : childB S f i c = false := by unfold childB; rw [atN_not hm]; simp
        exact ⟨h1, by unfold childS; rw [h1]; rfl⟩)
      rw [HS.out.1]
      clear hH hP hN hj hm
      go_enter Try.func67, Try.ntmps67
      go_wp2_with fail
      refine (C1.out).mono ?_
      rintro e w2 ⟨rfl, rfl⟩
      go_wp2_with fail
      refine (C2.out).mono ?_
      rintro e w3 ⟨rfl, rfl⟩
      clear C1 C2
      go_wp2_with fail
      go_quiet (fail)
      go_wp2_with fail
      go_ret
      exact ⟨rfl, by rw [HS.out.2]; exact (hN1.drop).drewN nq, below_drewNS bN nq⟩
    | some m =>
      have C2 := hid (rat_is sb hb n first many S c m hm _ B _ hN)
      have m0 : decide ((m : Int) < 0) = false := decide_eq_false (by omega)
      by_cases hi0 : i < 0
      · have e0 : decide (i < 0) = true := decide_eq_true hi0
        have HS := hid (show childB S f i c = false ∧ childS n S f i c r = S from by
          have h1 : childB S f i c = false := by unfold childB; rw [slotAt_off (by omega)]; rfl
          exact ⟨h1, by unfold childS; rw [h1]; rfl⟩)
        rw [HS.out.1]
        clear hH hP hN hj hm hi0
        go_enter Try.func67, Try.ntmps67
        go_wp2_with fail
        refine (C1.out).mono ?_
        rintro e w2 ⟨rfl, rfl⟩
        go_wp2_with fail
        refine (C2.out).mono ?_
        rintro e w3 ⟨rfl, rfl⟩
        clear C1 C2
        go_wp2_with fail
        go_quiet (fail)
        go_wp2_with fail
        go_ret
        exact ⟨rfl, by rw [HS.out.2]; exact (hN1.drop).drewN nq, below_drewNS bN nq⟩
      have e0 : decide (i < 0) = false := decide_eq_false hi0
      by_cases hi7 : 7 < i
      · have e1 : decide (7 < i) = true := decide_eq_true hi7
        have HS := hid (show childB S f i c = false ∧ childS n S f i c r = S from by
          have h1 : childB S f i c = false := by unfold childB; rw [slotAt_off (by omega)]; rfl
          exact ⟨h1, by unfold childS; rw [h1]; rfl⟩)
        rw [HS.out.1]
        clear hH hP hN hj hm hi0 hi7
        go_enter Try.func67, Try.ntmps67
        go_wp2_with fail
        refine (C1.out).mono ?_
        rintro e w2 ⟨rfl, rfl⟩
        go_wp2_with fail
        refine (C2.out).mono ?_
        rintro e w3 ⟨rfl, rfl⟩
        clear C1 C2
        go_wp2_with fail
        go_quiet (fail)
        go_wp2_with fail
        go_ret
        exact ⟨rfl, by rw [HS.out.2]; exact (hN1.drop).drewN nq, below_drewNS bN nq⟩
      have e1 : decide (7 < i) = false := decide_eq_false hi7
      obtain ⟨hP2, fb, v, q, hqp, hl, hO⟩ := RStA.openX hN
      have hj' := hj
      have hm' := hm
      rw [← hqp] at hj' hm'
      obtain ⟨x, hx, hxf, hpx⟩ := at_page hj'
      obtain ⟨z, hz, hzf, hpz⟩ := at_page hm'
      rw [hqp] at hpx hpz
      have hr := hP.ok x.2 (pageAt_mem hpx).1
      have h8 := hP.s8 x.2 (pageAt_mem hpx).1
      have hkx : keyAt S.ps f = x.2.k := by unfold keyAt; rw [hpx]
      have hkz : keyAt S.ps c = z.2.k := by unfold keyAt; rw [hpz]
      obtain ⟨ki, rfl⟩ : ∃ k : Nat, i = (k : Int) := ⟨i.toNat, by omega⟩
      obtain ⟨y, hy⟩ : ∃ y, x.2.s[ki]? = some y := ⟨_, List.getElem?_eq_getElem (by omega)⟩
      have hsl : slotAt S.ps f (ki : Int) = some y := slotAt_intro hpx (by omega) (by simpa using hy)
      have hsi : (slotAt S.ps f (ki : Int)).isSome = true := by rw [hsl]; rfl
      have hv : childB S f (ki : Int) c = decide (z.2.k.lv = x.2.k.lv - 1) := by unfold childB; rw [hsi, hpz, hkx, hkz]; rfl
      have hw : IntKind.i64.wrap (x.2.k.lv - 1) = x.2.k.lv - 1 := IntWalk.i64_in _ (by have := hr.1; have := hr.2.1; omega)
      have c2 := hO.cell [] _ 2 (v := v) rfl
      obtain ⟨ao, cap, rfl, hg⟩ := rstX_R hO
      have hjl : j < q.length := (List.getElem?_eq_some_iff.1 hx).1
      have hml : m < q.length := (List.getElem?_eq_some_iff.1 hz).1
      obtain ⟨g, rfl, hrow⟩ := hg (by omega)
      have cx := (hrow j x hx).2.2.1
      have cz := (hrow m z hz).2.2.1
      have hjl' : (j : Int) < (q.length : Int) := by omega
      have hml' : (m : Int) < (q.length : Int) := by omega
      have HJ := hid hj
      have HSI := hid hsi
      obtain ⟨lx, hlx⟩ : ∃ lx, x.2.k.lv = lx := ⟨_, rfl⟩
      obtain ⟨lz, hlz⟩ : ∃ lz, z.2.k.lv = lz := ⟨_, rfl⟩
      rw [hlx] at hv hw cx
      rw [hlz] at hv cz
      clear hH hP hN hj hm hi0 hi7 hP2 hO hj' hm' hx hxf hpx hz hzf hpz hr h8 hkx hkz hy hsl hsi hg hrow hlx hlz hqp
      by_cases hlv : lz = lx - 1
      · have e5 : (lz == lx - 1) = true := by rw [beq_iff_eq]; exact hlv
        have e6 : (lz != lx - 1) = false := by simp [hlv]
        rw [decide_eq_true hlv] at hv
        have HST := hid (show childS n S f (ki : Int) c r = putS n S f (ki : Int) ⟨1, c, r.1, r.2.1, r.2.2⟩ c from by unfold childS; rw [hv]; rfl)
        rw [hv]
        clear hv hlv
        go_enter Try.func67, Try.ntmps67
        go_wp2_with fail
        refine (C1.out).mono ?_
        rintro e w2 ⟨rfl, rfl⟩
        go_wp2_with fail
        refine (C2.out).mono ?_
        rintro e w3 ⟨rfl, rfl⟩
        clear C1 C2
        go_wp2_with fail
        go_quiet (fail)
        have hN2 := hN1.drewN nq
        have bN2 := below_drewNS bN nq
        generalize (w.alloc (.cells (rArr r) 33)).drewN nq = wq at *
        have r0 := hN2.cell [] _ 0 (v := .bool r.1) rfl
        have r1 := hN2.cell [] _ 1 (v := .bool r.2.1) rfl
        have r2 := hN2.cell [] _ 2 (v := .bool r.2.2) rfl
        clear c2 cx cz
        go_wp2_with fail
        refine (rset_is sb hb n first many S f ki c ⟨1, c, r.1, r.2.1, r.2.2⟩ j HJ.out HSI.out wq B X hN2.drop).mono ?_
        rintro e w4 ⟨rfl, hH4, hB4⟩
        go_wp2_with fail
        go_ret
        exact ⟨rfl, by rw [HST.out]; exact hH4, bN2.trans hB4⟩
      · have e5 : (lz == lx - 1) = false := by rw [beq_eq_false_iff_ne]; exact hlv
        have e6 : (lz != lx - 1) = true := by simpa using hlv
        rw [decide_eq_false hlv] at hv
        have HST := hid (show childS n S f (ki : Int) c r = S from by unfold childS; rw [hv]; rfl)
        rw [hv]
        clear hv hlv
        go_enter Try.func67, Try.ntmps67
        go_wp2_with fail
        refine (C1.out).mono ?_
        rintro e w2 ⟨rfl, rfl⟩
        go_wp2_with fail
        refine (C2.out).mono ?_
        rintro e w3 ⟨rfl, rfl⟩
        clear C1 C2
        go_wp2_with fail
        go_quiet (fail)
        go_wp2_with fail
        go_ret
        exact ⟨rfl, by rw [HST.out]; exact (hN1.drop).drewN nq, below_drewNS bN nq⟩

end Go.Proofs.Yteeapkndappnoaa

/-
  The document's store: Leaf.
-/
namespace Go.Proofs.Yteeapkndappnoaa
open Go.RowKit Go.Shelf
set_option linter.unusedVariables false
set_option linter.unusedSimpArgs false

set_option maxHeartbeats 4000000 in
theorem RLeaf_calls (sb hb n : Nat) (first many : Int) (S : StS) (f i gg h : Int) (r : Bool × Bool × Bool) (w : World) (B : Nat) (X : List Asr) (hH : Has w B (rstaL sb hb n first many S X)) :
    Calls Try.prog 68 #[.pointer (some ⟨sb, 0, none⟩), .int .i64 f, .int .i64 i, .int .i64 gg, .int .i64 h, .agg (rArr r)] w fun e w' => e = .returned (.bool (leafB n S f i h)) ∧ Has w' B (rstaL sb hb n first many (leafS n S f i gg h r) X) ∧ Below B w w' := by
  have hP := RStA.fits hH
  have hN1 := hH.newblk w.heap.size 33 (rArr r) rfl
  have bN := below_new (Below.refl B w) hH (.cells (rArr r) 33)
  have hN : Has (w.alloc (.cells (rArr r) 33)) B (rstaL sb hb n first many S (blk w.heap.size 33 (rArr r) :: X)) := toX hN1
  cases hj : atN S.ps f with
  | none =>
    have C1 := hid (rat_not sb hb n first many S f hj _ B _ hN)
    have HS := hid (show leafB n S f i h = false ∧ leafS n S f i gg h r = S from by
      have h1 : leafB n S f i h = false := by unfold leafB; rw [slotAt_no (atN_not hj)]; rfl
      exact ⟨h1, by unfold leafS; rw [h1]; rfl⟩)
    rw [HS.out.1]
    clear hH hP hN hj
    go_enter Try.func68, Try.ntmps68
    go_wp2_with fail
    refine (C1.out).mono ?_
    rintro e w2 ⟨rfl, rfl⟩
    clear C1
    go_wp2_with fail
    go_ret
    exact ⟨rfl, by rw [HS.out.2]; exact hN1.drop, bN⟩
  | some j =>
    have C1 := hid (rat_is sb hb n first many S f j hj _ B _ hN)
    have j0 : decide ((j : Int) < 0) = false := decide_eq_false (by omega)
    by_cases hi0 : i < 0
    · have e0 : decide (i < 0) = true := decide_eq_true hi0
      have HS := hid (show leafB n S f i h = false ∧ leafS n S f i gg h r = S from by
        have h1 : leafB n S f i h = false := by unfold leafB; rw [slotAt_off (by omega)]; rfl
        exact ⟨h1, by unfold leafS; rw [h1]; rfl⟩)
      rw [HS.out.1]
      clear hH hP hN hj hi0
      go_enter Try.func68, Try.ntmps68
      go_wp2_with fail
      refine (C1.out).mono ?_
      rintro e w2 ⟨rfl, rfl⟩
      clear C1
      go_wp2_with fail
      go_ret
      exact ⟨rfl, by rw [HS.out.2]; exact hN1.drop, bN⟩
    have e0 : decide (i < 0) = false := decide_eq_false hi0
    by_cases hi7 : 7 < i
    · have e1 : decide (7 < i) = true := decide_eq_true hi7
      have HS := hid (show leafB n S f i h = false ∧ leafS n S f i gg h r = S from by
        have h1 : leafB n S f i h = false := by unfold leafB; rw [slotAt_off (by omega)]; rfl
        exact ⟨h1, by unfold leafS; rw [h1]; rfl⟩)
      rw [HS.out.1]
      clear hH hP hN hj hi0 hi7
      go_enter Try.func68, Try.ntmps68
      go_wp2_with fail
      refine (C1.out).mono ?_
      rintro e w2 ⟨rfl, rfl⟩
      clear C1
      go_wp2_with fail
      go_ret
      exact ⟨rfl, by rw [HS.out.2]; exact hN1.drop, bN⟩
    have e1 : decide (7 < i) = false := decide_eq_false hi7
    obtain ⟨hP2, fb, v, q, hqp, hl, hO⟩ := RStA.openX hN
    have hj' := hj
    rw [← hqp] at hj'
    obtain ⟨x, hx, hxf, hpx⟩ := at_page hj'
    rw [hqp] at hpx
    have h8 := hP.s8 x.2 (pageAt_mem hpx).1
    have hkx : keyAt S.ps f = x.2.k := by unfold keyAt; rw [hpx]
    obtain ⟨ki, rfl⟩ : ∃ k : Nat, i = (k : Int) := ⟨i.toNat, by omega⟩
    obtain ⟨y, hy⟩ : ∃ y, x.2.s[ki]? = some y := ⟨_, List.getElem?_eq_getElem (by omega)⟩
    have hsl : slotAt S.ps f (ki : Int) = some y := slotAt_intro hpx (by omega) (by simpa using hy)
    have hsi : (slotAt S.ps f (ki : Int)).isSome = true := by rw [hsl]; rfl
    have hv : leafB n S f (ki : Int) h = (decide (x.2.k.lv = 1) && decide (0 ≤ h) && decide (h < n)) := by unfold leafB; rw [hsi, hkx]; rfl
    have c2 := hO.cell [] _ 2 (v := v) rfl
    have c00 := hO.cell [] _ 0 (v := ptrV hb) rfl
    unfold ptrV at c00
    obtain ⟨ao, cap, rfl, hg⟩ := rstX_R hO
    have hjl : j < q.length := (List.getElem?_eq_some_iff.1 hx).1
    obtain ⟨g, rfl, hrow⟩ := hg (by omega)
    have cx := (hrow j x hx).2.2.1
    have hjl' : (j : Int) < (q.length : Int) := by omega
    have CF := hid (RFrames_calls hb n S.W _ B _ hN.drop)
    have HJ := hid hj
    have HSI := hid hsi
    obtain ⟨lx, hlx⟩ : ∃ lx, x.2.k.lv = lx := ⟨_, rfl⟩
    rw [hlx] at hv cx
    clear hH hP hN hj hi0 hi7 hP2 hO hj' hx hxf hpx h8 hkx hy hsl hsi hg hrow hlx hqp
    by_cases hlv : lx = 1
    rotate_left
    · have e5 : (lx != 1) = true := by simpa using hlv
      have e5' : (lx == 1) = false := by rw [beq_eq_false_iff_ne]; exact hlv
      have HST := hid (show leafB n S f (ki : Int) h = false ∧ leafS n S f (ki : Int) gg h r = S from by
        have h1 : leafB n S f (ki : Int) h = false := by rw [hv, decide_eq_false hlv]; rfl
        exact ⟨h1, by unfold leafS; rw [h1]; rfl⟩)
      rw [HST.out.1]
      clear hv hlv CF
      go_enter Try.func68, Try.ntmps68
      go_wp2_with fail
      refine (C1.out).mono ?_
      rintro e w2 ⟨rfl, rfl⟩
      clear C1
      go_wp2_with fail
      go_ret
      exact ⟨rfl, by rw [HST.out.2]; exact hN1.drop, bN⟩
    have e5 : (lx != 1) = false := by simp [hlv]
    have e5' : (lx == 1) = true := by rw [beq_iff_eq]; exact hlv
    rw [decide_eq_true hlv] at hv
    clear hlv
    by_cases hh0 : h < 0
    · have e6 : decide (h < 0) = true := decide_eq_true hh0
      have HST := hid (show leafB n S f (ki : Int) h = false ∧ leafS n S f (ki : Int) gg h r = S from by
        have h1 : leafB n S f (ki : Int) h = false := by rw [hv, decide_eq_false (by omega : ¬ 0 ≤ h)]; rfl
        exact ⟨h1, by unfold leafS; rw [h1]; rfl⟩)
      rw [HST.out.1]
      clear hv hh0 CF
      go_enter Try.func68, Try.ntmps68
      go_wp2_with fail
      refine (C1.out).mono ?_
      rintro e w2 ⟨rfl, rfl⟩
      clear C1
      go_wp2_with fail
      go_ret
      exact ⟨rfl, by rw [HST.out.2]; exact hN1.drop, bN⟩
    have e6 : decide (h < 0) = false := decide_eq_false hh0
    by_cases hhn : (n : Int) ≤ h
    · have e7 : decide ((n : Int) ≤ h) = true := decide_eq_true hhn
      have HST := hid (show leafB n S f (ki : Int) h = false ∧ leafS n S f (ki : Int) gg h r = S from by
        have h1 : leafB n S f (ki : Int) h = false := by rw [hv, decide_eq_false (by omega : ¬ h < n)]; simp
        exact ⟨h1, by unfold leafS; rw [h1]; rfl⟩)
      rw [HST.out.1]
      clear hv hh0 hhn
      go_enter Try.func68, Try.ntmps68
      go_wp2_with fail
      refine (C1.out).mono ?_
      rintro e w2 ⟨rfl, rfl⟩
      clear C1
      go_wp2_with fail
      refine CF.out.mono ?_
      rintro e w4 ⟨rfl, rfl⟩
      go_wp2_with fail
      go_ret
      exact ⟨rfl, by rw [HST.out.2]; exact hN1.drop, bN⟩
    have e7 : decide ((n : Int) ≤ h) = false := decide_eq_false hhn
    have HST := hid (show leafB n S f (ki : Int) h = true ∧ leafS n S f (ki : Int) gg h r = putS n S f (ki : Int) ⟨2, gg, r.1, r.2.1, r.2.2⟩ h from by
      have h1 : leafB n S f (ki : Int) h = true := by rw [hv, decide_eq_true (by omega : 0 ≤ h), decide_eq_true (by omega : h < n)]; rfl
      exact ⟨h1, by unfold leafS; rw [h1]; rfl⟩)
    rw [HST.out.1]
    clear hv hh0 hhn
    have r0 := hN1.cell [] _ 0 (v := .bool r.1) rfl
    have r1 := hN1.cell [] _ 1 (v := .bool r.2.1) rfl
    have r2 := hN1.cell [] _ 2 (v := .bool r.2.2) rfl
    go_enter Try.func68, Try.ntmps68
    go_wp2_with fail
    refine (C1.out).mono ?_
    rintro e w2 ⟨rfl, rfl⟩
    clear C1
    go_wp2_with fail
    refine CF.out.mono ?_
    rintro e w4 ⟨rfl, rfl⟩
    go_wp2_with fail
    refine (rset_is sb hb n first many S f ki h ⟨2, gg, r.1, r.2.1, r.2.2⟩ j HJ.out HSI.out _ B X hN1.drop).mono ?_
    rintro e w5 ⟨rfl, hH4, hB4⟩
    go_wp2_with fail
    go_ret
    exact ⟨rfl, by rw [HST.out.2]; exact hH4, bN.trans hB4⟩

end Go.Proofs.Yteeapkndappnoaa

/-
  Steps of regions that draw: append of a slice that may be nil; a made block as a row.
-/
namespace Go.Proofs.Yteeapkndappnoaa
open Go.RowKit
set_option linter.unusedVariables false
set_option linter.unusedSimpArgs false

section
variable {P : Program} {T : TypeId} {w : World} {B n size : Nat} {v : Value} {xs : List Value}
variable {ops : Array Oper} {o : Oper} {a : Act} {K : Act → World → Prop} {Q : Exit → Act → World → Prop} {E : Prop}

/-- 'append(dst, src...)': dst not nil, src whatever. -/
theorem step_append_rows {g0 cap0 : Nat} (L1 L2 : List Asr) (hH : Has w B (L1 ++ row T size (.slice (some ⟨g0, 0, none⟩) n cap0) n xs :: L2)) (hgd : o.guard = none) (s x : Operand) (t : TypeId)
    (ho : o.op = .call { callee := .builtin .append, args := #[s, x], argTypes := #[t, t] })
    (i : TypeInfo) (z : Value) (bytes : Nat) (ht : P.underlying t = some (.slice T)) (hi : P.info? T = some i) (hz : i.zero = some z)
    (hsize : i.size = size) (hby : i.bytes = bytes) (hzs : z.cells.size = size) (hsz : 0 < size) (hs : a.eval s = .slice (some ⟨g0, 0, none⟩) n cap0)
    (ao : Option Addr) (m c : Nat) (news : List Value) (hx : a.eval x = .slice ao m c) (hnone : ao = none → m = 0 ∧ c = 0) (hl : news.length = m * size) (hnews : ∀ ad, ao = some ad → ∀ j u, news[j]? = some u → w.cell? (ad.add j) = some u) (h1 : ∀ u ∈ news, u.oneCell' = true)
    (h63 : n + m ≤ maxLen) (hbytes : (n + m) * bytes ≤ 140737488355328)
    (hK : ∀ g cap w', Has w' B (L1 ++ row T size (.slice (some ⟨g, 0, none⟩) (n + m) cap) (n + m) (xs ++ news) :: L2) → Below B w w' → K (a.put o.dst (.slice (some ⟨g, 0, none⟩) (n + m) cap)) w') :
    if Region.wanted o (yielded ops a.tmps) = true then Oper.wp P o a w K Q else E := by
  cases ao with
  | some ad => exact step_append_row L1 L2 hH hgd s x t ho i z bytes ht hi hz hsize hby hzs hsz hs ad m c news hx hl (hnews ad rfl) h1 h63 hbytes hK
  | none =>
    obtain ⟨rfl, rfl⟩ := hnone rfl
    have hnews : news = [] := List.eq_nil_of_length_eq_zero (by simpa using hl)
    subst hnews
    have hw : Region.wanted o (yielded ops a.tmps) = true := by simp [Region.wanted, hgd]
    rw [if_pos hw]
    obtain ⟨hr, hg⟩ := hH.row_at L1 L2
    have hrun := run_append_owned_none (P := P) w 0 t o.type T i size ht hi _ n xs hr
    unfold Oper.wp
    have h2 := hK g0 cap0 w (by simpa using hH) (Below.refl _ _)
    rw [Nat.add_zero] at h2
    simp [execOp, ho, resolve, invoke, builtin, hs, hx, hrun, Result.andThen]
    exact h2
end

/-- A made block is a row. -/
theorem Has.blk_row {w : World} {B b n size : Nat} {T : TypeId} {cs : Array Value} (L1 L2 : List Asr) (h : Has w B (L1 ++ blk b T cs :: L2)) (hn : cs.size = n * size) (hm : n ≤ maxLen) : Has w B (L1 ++ row T size (.slice (some ⟨b, 0, none⟩) n n) n cs.toList :: L2) := by
  refine h.cast L1 L2 (fun S hS => ?_)
  obtain ⟨h1, h2⟩ := hS
  exact ⟨by rw [h1]; rfl, by simp [hn], .inr ⟨b, n, cs, rfl, Nat.zero_le _, h2, Nat.le_refl _, hm, hn, (by rw [← hn, ← Array.length_toList]; exact List.take_length)⟩⟩

end Go.Proofs.Yteeapkndappnoaa

/-
  Regions that draw: a condition on the world that holds until one of some last operations (a store to what was loaded) is carried out.
-/
namespace Go.Proofs.Yteeapkndappnoaa
open Go.RowKit
set_option linter.unusedVariables false
set_option linter.unusedSimpArgs false

section
variable {P : Program} {ops : Array Oper} {Q : Exit → Act → World → Prop} {md : Region.Mode} {S : World → Prop} {X : List Nat}

/-- What is carried out has all done that it waits for. -/
def Closed (md : Region.Mode) (ops : Array Oper) (listed : Array Bool) : Prop := ∀ (j : Nat) oj, ops[j]? = some oj → listed.getD j false = true → ∀ e ∈ oj.after, Region.binds md e = true → listed.getD e.on false = true
theorem Closed.set {listed : Array Bool} {j : Nat} (h : Closed md ops listed) (hj : j ∈ Region.ready md ops listed) : Closed md ops (listed.setIfInBounds j true) := by
  intro k ok hk hd e he hb
  obtain ⟨_, o, ho, hall⟩ := mem_ready.1 hj
  by_cases hjk : j = k
  · subst hjk
    rw [ho] at hk
    cases hk
    exact getD_set_true (hall e he hb)
  · rw [getD_set_ne false hjk] at hd
    exact getD_set_true (h k ok hk hd e he hb)
/-- Does e wait for i, at whatever distance? -/
def dep (md : Region.Mode) (ops : Array Oper) : Nat → Nat → Nat → Bool
  | 0, _, _ => false
  | f + 1, e, i => match ops[e]? with
    | some oe => oe.after.any fun y => Region.binds md y && (y.on == i || dep md ops f y.on i)
    | none => false
theorem dep_not {listed : Array Bool} (hc : Closed md ops listed) {i : Nat} (hi : listed.getD i false = false) : ∀ (f e : Nat), dep md ops f e i = true → listed.getD e false = false ∧ e ∉ Region.ready md ops listed
  | 0, _, h => by cases h
  | f + 1, e, h => by
    unfold dep at h
    cases he : ops[e]? with
    | none => rw [he] at h; cases h
    | some oe =>
      rw [he] at h
      obtain ⟨y, hy, h⟩ := Array.any_eq_true'.1 h
      simp only [Bool.and_eq_true, Bool.or_eq_true, beq_iff_eq] at h
      have hn : listed.getD y.on false = false := by
        rcases h.2 with h1 | h1
        · rw [h1]; exact hi
        · exact (dep_not hc hi f y.on h1).1
      refine ⟨?_, fun hr => ?_⟩
      · cases hd : listed.getD e false with
        | false => rfl
        | true =>
          have := hc e oe he hd y hy h.1
          rw [hn] at this
          cases this
      · obtain ⟨_, o, ho, hall⟩ := mem_ready.1 hr
        rw [he] at ho
        cases ho
        have := hall y hy h.1
        rw [hn] at this
        cases this

/-- As wpAnyH, but that S need not hold behind the operations X. -/
def wpAnyE (P : Program) (md : Region.Mode) (ops : Array Oper) (Q : Exit → Act → World → Prop) (S : World → Prop) (X : List Nat) : Nat → Array Bool → Act → World → Prop
  | 0, listed, a, w => Region.ready md ops listed = [] ∧ Q .normal a w
  | fuel + 1, listed, a, w =>
    (Region.ready md ops listed = [] → Q .normal a w) ∧
    ∀ i ∈ Region.ready md ops listed, wpOp P ops Q i (fun a' w' => (X.contains i = false → S w') ∧ wpAnyE P md ops Q S X fuel (listed.setIfInBounds i true) a' w') a w
theorem wpAny_of_E : ∀ (fuel : Nat) (listed : Array Bool) (a : Act) (w : World), wpAnyE P md ops Q S X fuel listed a w → wpAny P md ops Q fuel listed a w
  | 0, _, _, _, h => h
  | fuel + 1, _, _, _, h => ⟨h.1, fun i hi => wpOp_mono (fun a' w' h' => wpAny_of_E fuel _ a' w' h'.2) (h.2 i hi)⟩

theorem wpAnyE_first {i : Nat} {oi : Oper} {v : Value} (hi : ops[i]? = some oi) (hsel : ∀ (j : Nat) (o : Oper) cs b, ops[j]? = some o → o.op ≠ .select cs b)
    (hQ : ∀ c a w, Q (.panic c) (a.put oi.dst v) w → Q (.panic c) a w) (hX : ∀ e, X.contains e = true → dep md ops ops.size e i = true) :
    ∀ (fuel : Nat) (listed : Array Bool) (a : Act) (w : World),
      Closed md ops listed →
      (∀ j oj, ops[j]? = some oj → j ≠ i → listed.getD j true = false → (∀ e ∈ oj.after, Region.binds md e = true → e.on ≠ i) → oi.apart ops oj = true) →
      i ∈ Region.ready md ops listed → YieldsIf P ops S oi v a → S w →
      wpAnyE P md ops Q S X fuel (listed.setIfInBounds i true) (a.put oi.dst v) w → wpAnyE P md ops Q S X (fuel + 1) listed a w := by
  intro fuel
  induction fuel with
  | zero =>
    intro listed a w _ _ hr hy hS H
    refine ⟨fun h => (by rw [h] at hr; cases hr), fun j hj => ?_⟩
    by_cases hji : j = i
    · subst hji; exact hy.wpOp hi hS ⟨fun _ => hS, H⟩
    · have := ready_mono hj hji
      rw [H.1] at this
      cases this
  | succ fuel ih =>
    intro listed a w hc hfree hr hy hS H
    refine ⟨fun h => (by rw [h] at hr; cases hr), fun j hj => ?_⟩
    by_cases hji : j = i
    · subst hji; exact hy.wpOp hi hS ⟨fun _ => hS, H⟩
    · have h1 := H.2 j (ready_mono hj hji)
      have hin : listed.getD i false = false := by
        have h0 := (mem_ready.1 hr).1
        rcases Nat.lt_or_ge i listed.size with h' | h'
        · simp [h'] at h0 ⊢; exact h0
        · simp [Array.getElem?_eq_none h']
      have hjX : X.contains j = false := by
        cases hx : X.contains j with
        | false => rfl
        | true => exact absurd hj (dep_not hc hin _ _ (hX j hx)).2
      obtain ⟨hjun, oj, hoj, hall⟩ := mem_ready.1 hj
      have hnot : ∀ e ∈ oj.after, Region.binds md e = true → e.on ≠ i := fun e he hb heq => by
        have h1 := hall e he hb
        rw [heq, hin] at h1
        cases h1
      have h2 := wpOp_putIf hoj (hfree j oj hoj hji hjun hnot) (fun cs b => hsel i oi cs b hi) (fun cs b => hsel j oj cs b hoj) hQ hy h1
      have hfree' : ∀ k ok, ops[k]? = some ok → k ≠ i → (listed.setIfInBounds j true).getD k true = false →
          (∀ e ∈ ok.after, Region.binds md e = true → e.on ≠ i) → oi.apart ops ok = true := fun k ok hk hki hun hno => by
        refine hfree k ok hk hki ?_ hno
        by_cases hjk : j = k
        · subst hjk; exact hjun
        · rw [getD_set_ne true hjk] at hun; exact hun
      refine wpOp_mono (fun a' w' h3 => ⟨h3.2.1, ih (listed.setIfInBounds j true) a' w' (hc.set hj) hfree' (ready_mono hr (Ne.symm hji)) h3.1 (h3.2.1 hjX) ?_⟩) h2
      rw [Array.setIfInBounds_comm _ _ hji]
      exact h3.2.2

/-- The state of a walk: what is listed is closed. -/
def wpE (P : Program) (md : Region.Mode) (ops : Array Oper) (Q : Exit → Act → World → Prop) (S : World → Prop) (X : List Nat) (fuel : Nat) (listed : Array Bool) (a : Act) (w : World) : Prop :=
  Closed md ops listed → wpAnyE P md ops Q S X fuel listed a w

theorem wpE_take {i : Nat} {oi : Oper} {v : Value} {fuel : Nat} {listed : Array Bool} {a : Act} {w : World} (hi : ops[i]? = some oi)
    (hs : Region.noSelect ops = true) (hf : Region.free md ops listed i = true) (hr : (Region.ready md ops listed).contains i = true) (hX : (X.all fun e => dep md ops ops.size e i) = true)
    (hQ : ∀ c a w, Q (.panic c) (a.put oi.dst v) w → Q (.panic c) a w) (hy : YieldsIf P ops S oi v a) (hS : S w)
    (h : wpE P md ops Q S X fuel (listed.setIfInBounds i true) (a.put oi.dst v) w) : wpE P md ops Q S X (fuel + 1) listed a w := fun hc =>
  have hr' : i ∈ Region.ready md ops listed := by simpa using hr
  wpAnyE_first hi (Region.noSelect_spec hs) hQ (fun e he => by
    rw [List.all_eq_true] at hX
    exact hX e (by simpa using he)) fuel listed a w hc (Region.free_spec hi hf) hr' hy hS (h (hc.set hr'))

def AllReadyE (P : Program) (md : Region.Mode) (ops : Array Oper) (Q : Exit → Act → World → Prop) (S : World → Prop) (X : List Nat) (fuel : Nat) (listed : Array Bool) (a : Act) (w : World) (rs : List Nat) : Prop :=
  ∀ i ∈ rs, wpOp P ops Q i (fun a' w' => (X.contains i = false → S w') ∧ wpE P md ops Q S X fuel (listed.setIfInBounds i true) a' w') a w
theorem AllReadyE.nil {fuel : Nat} {listed : Array Bool} {a : Act} {w : World} : AllReadyE P md ops Q S X fuel listed a w [] := fun _ h => by cases h
theorem AllReadyE.cons {fuel : Nat} {listed : Array Bool} {a : Act} {w : World} {i : Nat} {o : Oper} {rs : List Nat} (ho : ops[i]? = some o) (hx : X.contains i = false)
    (h : ∀ K' : Act → World → Prop, Shut (∀ a w, S w → (S w → wpE P md ops Q S X fuel (listed.setIfInBounds i true) a w) → K' a w) → if Region.wanted o (yielded ops a.tmps) = true then Oper.wp P o a w K' Q else K' (a.put o.dst undef) w)
    (hs : AllReadyE P md ops Q S X fuel listed a w rs) : AllReadyE P md ops Q S X fuel listed a w (i :: rs) := fun j hj => by
  rcases List.mem_cons.1 hj with rfl | hj
  · exact wpOp_step ho (fun K' hK => h K' (fun a w hS hW => hK a w ⟨fun _ => hS, hW hS⟩))
  · exact hs j hj
/-- .. one of those behind which S need not hold. -/
theorem AllReadyE.last {fuel : Nat} {listed : Array Bool} {a : Act} {w : World} {i : Nat} {o : Oper} {rs : List Nat} (ho : ops[i]? = some o) (hx : X.contains i = true)
    (h : ∀ K' : Act → World → Prop, Shut (∀ a w, wpE P md ops Q S X fuel (listed.setIfInBounds i true) a w → K' a w) → if Region.wanted o (yielded ops a.tmps) = true then Oper.wp P o a w K' Q else K' (a.put o.dst undef) w)
    (hs : AllReadyE P md ops Q S X fuel listed a w rs) : AllReadyE P md ops Q S X fuel listed a w (i :: rs) := fun j hj => by
  rcases List.mem_cons.1 hj with rfl | hj
  · exact wpOp_step ho (fun K' hK => h K' (fun a w hW => hK a w ⟨fun h => (by rw [hx] at h; cases h), hW⟩))
  · exact hs j hj
theorem wpE_ready {rs : List Nat} {fuel : Nat} {listed : Array Bool} {a : Act} {w : World} (hr : Region.ready md ops listed = rs) (hne : rs ≠ [])
    (h : AllReadyE P md ops Q S X fuel listed a w rs) : wpE P md ops Q S X (fuel + 1) listed a w := fun hc =>
  ⟨fun h0 => absurd (hr ▸ h0) hne, fun i hi => wpOp_mono (fun a' w' h' => ⟨h'.1, h'.2 (hc.set hi)⟩) (h i (hr ▸ hi))⟩
theorem wpE_done {listed : Array Bool} {a : Act} {w : World} (hr : Region.ready md ops listed = []) (h : Q .normal a w) : ∀ fuel, wpE P md ops Q S X fuel listed a w
  | 0 => fun _ => ⟨hr, h⟩
  | _ + 1 => fun _ => ⟨fun _ => h, by rw [hr]; simp⟩
theorem wp_region_E {id : Nat} {a : Act} {w : World} (X : List Nat) (S : World → Prop) (hm : P.follows .mixedOrders = true) (hS : S w.drew)
    (h : S w.drew → wpE P .any ops Q S X ops.size (Array.replicate ops.size false) a w.drew) : (Code.region id ops true).wp P Q a w :=
  wp_region_any hm (wpAny_of_E _ _ _ _ (h hS (fun j oj hj hd => by
    exfalso
    have : j < ops.size := (Array.getElem?_eq_some_iff.1 hj).1
    simp [this] at hd)))
end

end Go.Proofs.Yteeapkndappnoaa

/-
  The document's store: Make.
-/
namespace Go.Proofs.Yteeapkndappnoaa
open Go.RowKit Go.Shelf
set_option linter.unusedVariables false
set_option linter.unusedSimpArgs false

def slots8C : Array Value := (slotsL (List.replicate 8 slotZ)).toArray
theorem make8S (w : World) : Sem.run Try.prog (Instr.makeSlice 51 (.int .i64 8) (.int .i64 8)) w = .ok (.slice (some ⟨w.heap.size, 0, none⟩) 8 8) (w.alloc (.cells slots8C 42)) := by kernel_rfl
theorem infoPageR : (Try.prog.info? 116).map (fun i => (i.zero, i.size, i.bytes)) = some (some (.agg #[.int .i64 0, .int .i64 0, .int .i64 0, .int .i64 0, .slice none 0 0]), 5, 56) := by kernel_rfl
/-- The document's pages' slots in one thing. -/
def rstT (hb n : Nat) (q : List (Value × PageS)) (W : List Int) (X : List Asr) : Asr := Asr.all (rws q ++ (RMemA hb n W :: X))
theorem rstT_in {sb hb fb n : Nat} {v : Value} {first many : Int} {F W : List Int} {q : List (Value × PageS)} {w : World} {B : Nat} {A : Asr} {X : List Asr} (h : Has w B (A :: rstX sb hb fb v first many F q (RMemA hb n W :: X))) :
    Has w B [rstT hb n q W X, A, blk sb 114 #[ptrV hb, ptrV fb, v], row 116 5 v q.length (rpgsL q), RefA fb first many F] := by
  have h2 : Has w B ([A, blk sb 114 #[ptrV hb, ptrV fb, v], row 116 5 v q.length (rpgsL q), RefA fb first many F] ++ (rws q ++ (RMemA hb n W :: X))) := h
  exact Has.shut_all _ (h2.perm List.perm_append_comm)
theorem rpgsL_snoc (q : List (Value × PageS)) (x : Value × PageS) : rpgsL (q ++ [x]) = rpgsL q ++ rpgL x := by simp [rpgsL]
theorem rstT_out {sb hb fb n : Nat} {v u : Value} {first many : Int} {F W : List Int} {q : List (Value × PageS)} {w : World} {B : Nat} {p : PageS} {X : List Asr}
    (h : Has w B [rstT hb n q W X, blk sb 114 #[ptrV hb, ptrV fb, v], row 116 5 v (q.length + 1) (rpgsL q ++ rpgL (u, p)), RefA fb first many F, row 42 5 u 8 (slotsL p.s)]) :
    Has w B (rstX sb hb fb v first many F (q ++ [(u, p)]) (RMemA hb n W :: X)) := by
  have h2 := Has.open_all h
  have h3 := h2.perm (List.perm_append_comm)
  have h4 : Has w B ([blk sb 114 #[ptrV hb, ptrV fb, v], row 116 5 v (q.length + 1) (rpgsL q ++ rpgL (u, p)), RefA fb first many F] ++ row 42 5 u 8 (slotsL p.s) :: (rws q ++ (RMemA hb n W :: X))) := h3
  have h5 := Has.front _ _ h4
  have h6 : Has w B (row 42 5 u 8 (slotsL p.s) :: (([blk sb 114 #[ptrV hb, ptrV fb, v], row 116 5 v (q.length + 1) (rpgsL q ++ rpgL (u, p)), RefA fb first many F] ++ rws q) ++ (RMemA hb n W :: X))) := by simpa using h5
  have h7 := Has.back _ _ h6
  unfold rstX
  rw [rpgsL_snoc]
  simpa [rws] using h7
/-- The cells of the pages, as an append reads them. -/
theorem row_src {w : World} {B n size cap : Nat} {T : TypeId} {xs : List Value} {ao : Option Addr} (L1 : List Asr) {L2 : List Asr} (h : Has w B (L1 ++ row T size (.slice ao n cap) n xs :: L2)) :
    (ao = none → n = 0 ∧ cap = 0) ∧ ∀ ad, ao = some ad → ∀ j u, xs[j]? = some u → w.cell? (ad.add j) = some u := by
  rcases Has.row_shape L1 L2 h with ⟨h1, h0⟩ | ⟨g, c, h1, _, _, _, _⟩
  · injection h1 with h1 h2 h3
    subst h1
    exact ⟨fun _ => ⟨h0, h3⟩, fun ad h => (by cases h)⟩
  · injection h1 with h1 h2 h3
    subst h1 h3
    refine ⟨fun h => (by cases h), fun ad h2 j u hj => ?_⟩
    cases h2
    have e : (⟨g, 0, none⟩ : Addr).add j = ⟨g, j, none⟩ := by unfold Addr.add; split <;> simp_all
    rw [e]
    exact Has.row_cell L1 L2 h j hj
theorem keyL_one (k : KeyS) : ∀ u ∈ keyL k, u.oneCell' = true := by simp [keyL, Value.oneCell']
theorem rpgL_one {f : Int} {k : KeyS} {u : Value} (hu : u.oneCell' = true) : ∀ v ∈ [Value.int .i64 f, .int .i64 k.g, .int .i64 k.lv, .int .i64 k.ro, u], v.oneCell' = true := by
  intro v hv
  simp only [List.mem_cons, List.not_mem_nil, or_false] at hv
  rcases hv with rfl | rfl | rfl | rfl | rfl
  · rfl
  · rfl
  · rfl
  · rfl
  · exact hu
theorem rpgsL_one {w : World} {B : Nat} {L1 L2 : List Asr} {q : List (Value × PageS)} (h : Has w B (L1 ++ (rws q ++ L2))) : ∀ u ∈ rpgsL q, u.oneCell' = true := by
  intro u hu
  unfold rpgsL at hu
  obtain ⟨x, hx, hu⟩ := List.mem_flatMap.1 hu
  have h2 : u = x.1 ∨ u ∈ [Value.int .i64 x.2.f, .int .i64 x.2.k.g, .int .i64 x.2.k.lv, .int .i64 x.2.k.ro] := by
    simp only [rpgL, List.mem_cons, List.not_mem_nil, or_false] at hu ⊢
    rcases hu with h | h | h | h | h
    · exact Or.inr (Or.inl h)
    · exact Or.inr (Or.inr (Or.inl h))
    · exact Or.inr (Or.inr (Or.inr (Or.inl h)))
    · exact Or.inr (Or.inr (Or.inr (Or.inr h)))
    · exact Or.inl h
  rcases h2 with rfl | h2
  · obtain ⟨j, hj⟩ := List.mem_iff_getElem?.1 hx
    rw [rws_split hj] at h
    have h3 : Has w B ((L1 ++ rws (q.take j)) ++ row 42 5 x.1 8 (slotsL x.2.s) :: (rws (q.drop (j + 1)) ++ L2)) := by simpa using h
    obtain ⟨ao, cap, he, _⟩ := Has.row_form _ _ h3
    rw [he]
    rfl
  · simp at h2
    rcases h2 with rfl | rfl | rfl | rfl <;> rfl
theorem findK_none {ps : List PageS} {k : KeyS} {a b : Bool} (h : (findK ps k).isSome = a) (hb : (!a && b) = true) : findK ps k = none := by
  cases a with
  | true => simp at hb
  | false => simpa using h
theorem rightK_yes {k : KeyS} {a b : Bool} (h : decide (rightK k) = b) (hb : (!a && b) = true) : rightK k := by
  cases b with
  | false => simp at hb
  | true => simpa using h
def zeroW (n : Nat) (W : List Int) (f : Int) (k : Nat) : List Int := (List.range k).foldl (fun W i => setW W n f (i : Nat) 0) W
theorem zeroW_succ (n : Nat) (W : List Int) (f : Int) (k : Nat) : zeroW n W f (k + 1) = setW (zeroW n W f k) n f (k : Nat) 0 := by
  unfold zeroW
  rw [List.range_succ, List.foldl_append]
  rfl
theorem zeroW_at (n : Nat) (W : List Int) (f : Nat) (hf : f < n) (hW : W.length = n * 8) (k : Nat) (hk : k ≤ 8) : zeroW n W (f : Int) k = W.take (f * 8) ++ List.replicate k 0 ++ W.drop (f * 8 + k) := by
  induction k with
  | zero => simp [zeroW]
  | succ k ih =>
    rw [zeroW_succ, ih (by omega)]
    unfold setW
    rw [if_pos (by unfold wok; omega)]
    have e : wat (f : Int) (k : Int) = f * 8 + k := by unfold wat; omega
    have hd : W.drop (f * 8 + k) = W[f * 8 + k]'(by omega) :: W.drop (f * 8 + k + 1) := List.drop_eq_getElem_cons (by omega)
    rw [e, hd, List.set_append_right _ _ (by simp; omega)]
    have e2 : f * 8 + k - (W.take (f * 8) ++ List.replicate k 0).length = 0 := by simp; omega
    rw [e2, List.set_cons_zero, List.replicate_succ']
    simp [Nat.add_assoc]
theorem zeroW_fill (n : Nat) (W : List Int) (f : Int) (hf : 0 ≤ f ∧ f < n) (hW : W.length = n * 8) : zeroW n W f 8 = fillW W n f (List.replicate 8 0) := by
  obtain ⟨k, rfl⟩ : ∃ k : Nat, f = (k : Int) := ⟨f.toNat, by omega⟩
  rw [zeroW_at n W k (by omega) hW 8 (by omega)]
  unfold fillW
  rw [if_pos ⟨hf.1, hf.2, by simp⟩]
  simp

theorem rstX_fromK {sb hb fb n : Nat} {v : Value} {first many : Int} {F W : List Int} {q : List (Value × PageS)} {w : World} {B : Nat} {A : Asr} {X : List Asr} (h : Has w B (rstX sb hb fb v first many F q (RMemA hb n W :: A :: X))) : Has w B (A :: rstX sb hb fb v first many F q (RMemA hb n W :: X)) := by
  refine h.perm ?_
  have e := List.perm_middle (a := A) (l₁ := (blk sb 114 #[ptrV hb, ptrV fb, v] :: row 116 5 v q.length (rpgsL q) :: RefA fb first many F :: rws q) ++ [RMemA hb n W]) (l₂ := X)
  simpa [rstX] using e
theorem rpgs_ones {sb hb fb n : Nat} {v : Value} {first many : Int} {F W : List Int} {q : List (Value × PageS)} {w : World} {B : Nat} {X : List Asr} (h : Has w B (rstX sb hb fb v first many F q (RMemA hb n W :: X))) : ∀ u ∈ rpgsL q, u.oneCell' = true :=
  rpgsL_one (L1 := [_, _, _]) h

set_option maxHeartbeats 8000000 in
set_option maxRecDepth 100000 in
theorem RMake_calls (sb hb n : Nat) (first many : Int) (S : StS) (k : KeyS) (w : World) (B : Nat) (X : List Asr) (hH : Has w B (rstaL sb hb n first many S X)) :
    Calls Try.prog 66 #[.pointer (some ⟨sb, 0, none⟩), .agg (keyC k)] w fun e w' => e = .returned (.tuple #[.int .i64 (makeV S k), .bool (makeB S k)]) ∧ Has w' B (rstaL sb hb n first many (makeS n S k) X) ∧ Below B w w' := by
  have hP := RStA.fits hH
  obtain ⟨j0, hj0, jz0, jz1, jz2⟩ := info_parts infoPageR
  obtain ⟨fv, hfv⟩ : ∃ v, (match findK S.ps k with | some p => p.f | none => 0) = v := ⟨_, rfl⟩
  obtain ⟨fb', hfb⟩ : ∃ b, (findK S.ps k).isSome = b := ⟨_, rfl⟩
  obtain ⟨rb, hrb⟩ : ∃ b, decide (rightK k) = b := ⟨_, rfl⟩
  obtain ⟨mv, hmv⟩ : ∃ v, makeV S k = v := ⟨_, rfl⟩
  obtain ⟨mb, hmb⟩ : ∃ b, makeB S k = b := ⟨_, rfl⟩
  obtain ⟨kb, hkb⟩ : ∃ b, w.heap.size = b := ⟨_, rfl⟩
  have hN : Has (w.alloc (.cells (keyC k) 31)) B (rstaL sb hb n first many S (blk kb 31 (keyC k) :: X)) := toX (hH.newblk kb 31 (keyC k) hkb)
  have bN := below_new (Below.refl B w) hH (.cells (keyC k) 31)
  obtain ⟨a0, a1, a2⟩ := key_cells [_, _] hN
  have CF := RFind_calls sb hb n first many S.F S.ps k _ B _ hN
  rw [findV_lit _ fv fb' hfv hfb] at CF
  have CF := hid CF
  have hmbe : makeB S k = (!fb' && rb && takeB S.F) := by unfold makeB; rw [hrb, ← hfb, Option.not_isSome]
  have hmve : makeV S k = if makeB S k then takeV S.F else 0 := rfl
  rw [hmb] at hmbe hmve
  rw [hmv] at hmve
  have HMB := hid hmb
  have HP := hid hP
  have HFB := hid hfb
  have HRB := hid hrb
  have HMBE := hid hmbe
  have HMVE := hid hmve
  rw [hmv, hmb]
  clear hmv hmb hfv hfb hH hP hN hmbe hmve hrb
  go_enter Try.func66, Try.ntmps66
  go_wp2_with fail
  refine CF.out.mono ?_
  rintro e w2 ⟨rfl, hH2, hB2⟩
  have bN := bN.trans hB2
  have hH2 : Has w2 B (rstaL sb hb n first many S (blk kb 31 (keyC k) :: X)) := hH2
  obtain ⟨c0, c1, c2⟩ := key_cells [_, _] hH2
  have HB := hid hkb
  clear CF hB2 a0 a1 a2 hkb
  go_upto_region 2 with fail
  go_cut [47] from 17 to 47 (fun s wx => s = .bool (!(!fb' && rb)) ∧ w2 = wx)
  case first =>
    cases fb' with
    | true => go_wp2_with fail; go_meet; case rel => exact ⟨rfl, rfl⟩
    | false =>
      by_cases r1 : k.lv < 1
      · have d1 : decide (k.lv < 1) = true := decide_eq_true r1
        have hr := HRB.out
        have hr2 : decide (rightK k) = false := decide_eq_false (fun h => by unfold rightK at h; omega)
        rw [hr2] at hr
        subst hr
        have HR := hid hr2
        clear HRB hr2
        clear HMBE HMVE HMB
        try clear r6
        go_wp2_with fail
        go_meet
        case rel => exact ⟨rfl, rfl⟩
      have d1 : decide (k.lv < 1) = false := decide_eq_false r1
      by_cases r2 : 3 < k.lv
      · have d2 : decide (3 < k.lv) = true := decide_eq_true r2
        have hr := HRB.out
        have hr2 : decide (rightK k) = false := decide_eq_false (fun h => by unfold rightK at h; omega)
        rw [hr2] at hr
        subst hr
        have HR := hid hr2
        clear HRB hr2
        clear HMBE HMVE HMB
        try clear r6
        go_wp2_with fail
        go_meet
        case rel => exact ⟨rfl, rfl⟩
      have d2 : decide (3 < k.lv) = false := decide_eq_false r2
      by_cases r3 : k.ro < 0
      · have d3 : decide (k.ro < 0) = true := decide_eq_true r3
        have hr := HRB.out
        have hr2 : decide (rightK k) = false := decide_eq_false (fun h => by unfold rightK at h; omega)
        rw [hr2] at hr
        subst hr
        have HR := hid hr2
        clear HRB hr2
        clear HMBE HMVE HMB
        try clear r6
        go_wp2_with fail
        go_meet
        case rel => exact ⟨rfl, rfl⟩
      have d3 : decide (k.ro < 0) = false := decide_eq_false r3
      by_cases r4 : 2 < k.ro
      · have d4 : decide (2 < k.ro) = true := decide_eq_true r4
        have hr := HRB.out
        have hr2 : decide (rightK k) = false := decide_eq_false (fun h => by unfold rightK at h; omega)
        rw [hr2] at hr
        subst hr
        have HR := hid hr2
        clear HRB hr2
        clear HMBE HMVE HMB
        try clear r6
        go_wp2_with fail
        go_meet
        case rel => exact ⟨rfl, rfl⟩
      have d4 : decide (2 < k.ro) = false := decide_eq_false r4
      by_cases r5 : 0 < k.ro
      · have d5 : decide (0 < k.ro) = true := decide_eq_true r5
        by_cases r6 : k.lv = 1
        · have d6 : (k.lv != 1) = false := by simp [r6]
          have d7 : (k.lv == 1) = true := by simp [r6]
          have hr := HRB.out
          have hr2 : decide (rightK k) = true := decide_eq_true (by unfold rightK; omega)
          rw [hr2] at hr
          subst hr
          clear HRB hr2
          clear HMBE HMVE HMB
          try clear r6
          go_wp2_with fail
          go_meet
          case rel => exact ⟨rfl, rfl⟩
        · have d6 : (k.lv != 1) = true := by simpa using r6
          have d7 : (k.lv == 1) = false := by simpa using r6
          have hr := HRB.out
          have hr2 : decide (rightK k) = false := decide_eq_false (fun h => by unfold rightK at h; omega)
          rw [hr2] at hr
          subst hr
          have HR := hid hr2
          clear HRB hr2
          clear HMBE HMVE HMB
          try clear r6
          go_wp2_with fail
          go_meet
          case rel => exact ⟨rfl, rfl⟩
      · have d5 : decide (0 < k.ro) = false := decide_eq_false r5
        have hr := HRB.out
        have hr2 : decide (rightK k) = true := decide_eq_true (by unfold rightK; omega)
        rw [hr2] at hr
        subst hr
        clear HRB hr2
        clear HMBE HMVE HMB
        try clear r6
        go_wp2_with fail
        go_meet
        case rel => exact ⟨rfl, rfl⟩
  case rest =>
    obtain ⟨rfl, rfl⟩ := hcut
    obtain ⟨xb, hxb⟩ : ∃ b, (!fb' && rb) = b := ⟨_, rfl⟩
    have hmbe := HMBE.out
    have hmve := HMVE.out
    rw [hxb] at hmbe ⊢
    have HXB := hid hxb
    clear hxb HMBE HMVE c0 c1 c2
    cases xb with
    | false =>
      have hm : mb = false := by rw [hmbe]; rfl
      subst hm
      have hv : mv = 0 := by rw [hmve]; rfl
      subst hv
      have hs : makeS n S k = S := by unfold makeS; rw [HMB.out]; rfl
      have HS := hid hs
      clear hmbe hmve hs
      go_wp2_with fail
      go_ret2
      exact ⟨rfl, by rw [HS.out]; exact Has.drop (fromX hH2), bN⟩
    | true =>
      obtain ⟨_, fb, v, q, hq, hl, hO⟩ := RStA.openX hH2
      have c3 := hO.cell [] _ 1 (v := ptrV fb) rfl
      unfold ptrV at c3
      have CT := hid ((RefTake fb first many S.F).at [_, _] _ hO)
      have HQ := hid hq
      clear hH2 hq
      go_wp2_with fail
      refine CT.out.mono ?_
      rintro e w4 ⟨_, rfl, hH4, hB4⟩
      have bN := bN.trans hB4
      have hH4 : Has w4 B (rstX sb hb fb v first many S.F.dropLast q (RMemA hb n S.W :: blk kb 31 (keyC k) :: X)) := hH4
      obtain ⟨tb, htb⟩ : ∃ b, takeB S.F = b := ⟨_, rfl⟩
      rw [htb] at hmbe ⊢
      clear CT hO c3 hB4
      cases tb with
      | false =>
        have hm : mb = false := by rw [hmbe]; rfl
        subst hm
        have hv : mv = 0 := by rw [hmve]; rfl
        subst hv
        have hs : makeS n S k = S := by unfold makeS; rw [HMB.out]; rfl
        have hF : S.F.dropLast = S.F := by
          have : S.F = [] := by unfold takeB at htb; simpa using htb
          rw [this]; rfl
        rw [hF] at hH4
        have HS := hid hs
        clear hmbe hmve hs hF htb
        go_wp2_with fail
        go_ret2
        refine ⟨rfl, ?_, bN⟩
        have h5 : Has w4 B (RStA sb hb n first many S.F (q.map Prod.snd) :: RMemA hb n S.W :: blk kb 31 (keyC k) :: X) := RStA.shut fb v q (by rw [HQ.out]; exact HP.out) hH4
        rw [HQ.out] at h5
        rw [HS.out]
        exact Has.drop (fromX h5)
      | true =>
        have hm : mb = true := by rw [hmbe]; rfl
        subst hm
        have hv : mv = takeV S.F := by rw [hmve]; rfl
        obtain ⟨tv, htv⟩ : ∃ v, takeV S.F = v := ⟨_, rfl⟩
        have hvt : tv = mv := by rw [hv]; exact htv.symm
        rw [htv, hvt]
        rw [hvt] at htv
        clear hvt hv
        have HTV := hid htv
        have HTB := hid htb
        clear hmbe hmve htv htb
        have RW1 := hid (rpgs_ones hH4)
        have hD0 := rstX_fromK hH4
        have mk8 := make8S
        clear hH4
        go_upto_region 7 with fail
        go_cut [] from 58 to 72 (fun wx => ∃ (u v' : Value), Has wx B (rstX sb hb fb v' first many S.F.dropLast (q ++ [(u, newPg mv k)]) (RMemA hb n S.W :: X)) ∧ Below B w wx)
        case first =>
          have hD1 := hD0.drew
          have bD := bN.drew
          have hD := rstT_in hD1
          have c2 := hD.cell [_, _] _ 2 (v := v) rfl
          obtain ⟨s0, s1, s2⟩ := key_cells [_] hD
          obtain ⟨ao, cap, hvv, _, _, _⟩ := Has.row_form [_, _, _] _ hD
          subst hvv
          clear hD0 hD1 bN
          go_wp2_with fail
          refine wp_region_E [15] (fun U => U.cell? ⟨kb, 0, none⟩ = some (.int .i64 k.g) ∧ U.cell? ⟨kb, 1, none⟩ = some (.int .i64 k.lv) ∧ U.cell? ⟨kb, 2, none⟩ = some (.int .i64 k.ro) ∧ U.cell? ⟨sb, 2, none⟩ = some (.slice ao q.length cap)) (by kernel_rfl) ?_ (fun hHeld => ?_)
          · exact ⟨s0, s1, s2, c2⟩
          clear s0 s1 s2 c2
          generalize w4.drew = wd at *
          refine wpE_take (i := 0) (oi := ?oi0z1) (v := ?v0z1) ?hi0z1 (by kernel_rfl) (by kernel_rfl) (by kernel_rfl) (by kernel_rfl) ?hQ0z1 ?hy0z1 (by assumption) ?rest0z1
          case hi0z1 => simp only [List.getElem?_toArray, List.getElem?_cons_succ, List.getElem?_cons_zero]; rfl
          case hQ0z1 => exact fun _ _ _ h => h
          case hy0z1 => refine Or.inl ⟨by rfl, ?_⟩; intro w hSw; (try dsimp only at hSw); go_simp; try with_reducible rfl
          try simp only [Act.put, List.setIfInBounds_toArray, List.set_cons_zero, List.set_cons_succ]
          refine wpE_take (i := 2) (oi := ?oi2z2) (v := ?v2z2) ?hi2z2 (by kernel_rfl) (by kernel_rfl) (by kernel_rfl) (by kernel_rfl) ?hQ2z2 ?hy2z2 (by assumption) ?rest2z2
          case hi2z2 => simp only [List.getElem?_toArray, List.getElem?_cons_succ, List.getElem?_cons_zero]; rfl
          case hQ2z2 => exact fun _ _ _ h => h
          case hy2z2 => refine Or.inl ⟨by rfl, ?_⟩; intro w hSw; (try dsimp only at hSw); go_simp; try with_reducible rfl
          try simp only [Act.put, List.setIfInBounds_toArray, List.set_cons_zero, List.set_cons_succ]
          refine wpE_take (i := 3) (oi := ?oi3z3) (v := ?v3z3) ?hi3z3 (by kernel_rfl) (by kernel_rfl) (by kernel_rfl) (by kernel_rfl) ?hQ3z3 ?hy3z3 (by assumption) ?rest3z3
          case hi3z3 => simp only [List.getElem?_toArray, List.getElem?_cons_succ, List.getElem?_cons_zero]; rfl
          case hQ3z3 => exact fun _ _ _ h => h
          case hy3z3 => refine Or.inl ⟨by rfl, ?_⟩; intro w hSw; (try dsimp only at hSw); go_simp; try with_reducible rfl
          try simp only [Act.put, List.setIfInBounds_toArray, List.set_cons_zero, List.set_cons_succ]
          refine wpE_take (i := 4) (oi := ?oi4z4) (v := ?v4z4) ?hi4z4 (by kernel_rfl) (by kernel_rfl) (by kernel_rfl) (by kernel_rfl) ?hQ4z4 ?hy4z4 (by assumption) ?rest4z4
          case hi4z4 => simp only [List.getElem?_toArray, List.getElem?_cons_succ, List.getElem?_cons_zero]; rfl
          case hQ4z4 => exact fun _ _ _ h => h
          case hy4z4 => refine Or.inl ⟨by rfl, ?_⟩; intro w hSw; (try dsimp only at hSw); go_simp; try with_reducible rfl
          try simp only [Act.put, List.setIfInBounds_toArray, List.set_cons_zero, List.set_cons_succ]
          refine wpE_take (i := 5) (oi := ?oi5z5) (v := ?v5z5) ?hi5z5 (by kernel_rfl) (by kernel_rfl) (by kernel_rfl) (by kernel_rfl) ?hQ5z5 ?hy5z5 (by assumption) ?rest5z5
          case hi5z5 => simp only [List.getElem?_toArray, List.getElem?_cons_succ, List.getElem?_cons_zero]; rfl
          case hQ5z5 => exact fun _ _ _ h => h
          case hy5z5 => refine Or.inl ⟨by rfl, ?_⟩; intro w hSw; (try dsimp only at hSw); go_simp; try with_reducible rfl
          try simp only [Act.put, List.setIfInBounds_toArray, List.set_cons_zero, List.set_cons_succ]
          refine wpE_take (i := 7) (oi := ?oi7z6) (v := ?v7z6) ?hi7z6 (by kernel_rfl) (by kernel_rfl) (by kernel_rfl) (by kernel_rfl) ?hQ7z6 ?hy7z6 (by assumption) ?rest7z6
          case hi7z6 => simp only [List.getElem?_toArray, List.getElem?_cons_succ, List.getElem?_cons_zero]; rfl
          case hQ7z6 => exact fun _ _ _ h => h
          case hy7z6 => refine Or.inl ⟨by rfl, ?_⟩; intro w hSw; (try dsimp only at hSw); go_simp; try with_reducible rfl
          try simp only [Act.put, List.setIfInBounds_toArray, List.set_cons_zero, List.set_cons_succ]
          refine wpE_take (i := 8) (oi := ?oi8z7) (v := ?v8z7) ?hi8z7 (by kernel_rfl) (by kernel_rfl) (by kernel_rfl) (by kernel_rfl) ?hQ8z7 ?hy8z7 (by assumption) ?rest8z7
          case hi8z7 => simp only [List.getElem?_toArray, List.getElem?_cons_succ, List.getElem?_cons_zero]; rfl
          case hQ8z7 => exact fun _ _ _ h => h
          case hy8z7 => refine Or.inl ⟨by rfl, ?_⟩; intro w hSw; (try dsimp only at hSw); go_simp; try with_reducible rfl
          try simp only [Act.put, List.setIfInBounds_toArray, List.set_cons_zero, List.set_cons_succ]
          refine wpE_ready (rs := [1, 9]) (by kernel_rfl) (by simp) ?_
          refine AllReadyE.cons rfl rfl (fun K hK => ?_) (AllReadyE.cons rfl rfl (fun K hK => ?_) AllReadyE.nil)
          · obtain ⟨bE, hbE⟩ : ∃ b, wd.heap.size = b := ⟨_, rfl⟩
            have hHz8 := hD.newrow bE 116 5 hbE
            have bHz8 := below_new bD hD (.cells #[] 116)
            have sz8 := hid (show _ ∧ _ ∧ _ ∧ _ from ⟨(key_cells [_, _] hHz8).1, (key_cells [_, _] hHz8).2.1, (key_cells [_, _] hHz8).2.2, hHz8.cell [_, _, _] _ 2 (v := .slice ao q.length cap) rfl⟩)
            go_simp
            refine hK.out _ _ ?_ (fun hHeld => ?_)
            · exact sz8.out
            clear hK K
            try simp only [Act.put, List.setIfInBounds_toArray, List.set_cons_zero, List.set_cons_succ]
            generalize (wd.alloc (.cells #[] 116)) = wz8 at *
            clear hD bD hbE sz8
            refine wpE_ready (rs := [6, 9]) (by kernel_rfl) (by simp) ?_
            refine AllReadyE.cons rfl rfl (fun K hK => ?_) (AllReadyE.cons rfl rfl (fun K hK => ?_) AllReadyE.nil)
            · have srcz9 := row_src [_, _, _, _] hHz8
              refine step_append_rows [] _ hHz8 rfl (.tmp 59) (.tmp 63) 112 rfl j0 (.agg #[.int .i64 0, .int .i64 0, .int .i64 0, .int .i64 0, .slice none 0 0]) 56 Try.underlying112 hj0 jz0 jz1 jz2 rfl (by decide) rfl ao q.length cap (rpgsL q) rfl srcz9.1 (rpgsL_length q) srcz9.2 RW1.out (by unfold maxLen; omega) (by omega) ?_
              intro gE capE wz9 hHz9 hBz9
              simp only [Nat.zero_add, List.nil_append] at hHz9 ⊢
              have bHz9 := bHz8.trans hBz9
              have sz9 := hid (show _ ∧ _ ∧ _ ∧ _ from ⟨(key_cells [_, _] hHz9).1, (key_cells [_, _] hHz9).2.1, (key_cells [_, _] hHz9).2.2, hHz9.cell [_, _, _] _ 2 (v := .slice ao q.length cap) rfl⟩)
              refine hK.out _ _ ?_ (fun hHeld => ?_)
              · exact sz9.out
              clear hK K
              try simp only [Act.put, List.setIfInBounds_toArray, List.set_cons_zero, List.set_cons_succ]
              clear hHz8 bHz8 srcz9 hBz9 sz9
              refine wpE_ready (rs := [9]) (by kernel_rfl) (by simp) ?_
              refine AllReadyE.cons rfl rfl (fun K hK => ?_) AllReadyE.nil
              obtain ⟨bZ, hbZ⟩ : ∃ b, wz9.heap.size = b := ⟨_, rfl⟩
              have hzz10 := hHz9.newblk bZ 42 slots8C hbZ
              have hHz10 := Has.blk_row (n := 8) (size := 5) [] _ hzz10 rfl (by decide)
              have bHz10 := below_new bHz9 hHz9 (.cells slots8C 42)
              have sz10 := hid (show _ ∧ _ ∧ _ ∧ _ from ⟨(key_cells [_, _, _] hHz10).1, (key_cells [_, _, _] hHz10).2.1, (key_cells [_, _, _] hHz10).2.2, hHz10.cell [_, _, _, _] _ 2 (v := .slice ao q.length cap) rfl⟩)
              go_simp
              refine hK.out _ _ ?_ (fun hHeld => ?_)
              · exact sz10.out
              clear hK K
              try simp only [Act.put, List.setIfInBounds_toArray, List.set_cons_zero, List.set_cons_succ]
              generalize (wz9.alloc (.cells slots8C 42)) = wz10 at *
              clear hHz9 bHz9 hbZ sz10
              clear hzz10
              refine wpE_take (i := 10) (oi := ?oi10z11) (v := ?v10z11) ?hi10z11 (by kernel_rfl) (by kernel_rfl) (by kernel_rfl) (by kernel_rfl) ?hQ10z11 ?hy10z11 (by assumption) ?rest10z11
              case hi10z11 => simp only [List.getElem?_toArray, List.getElem?_cons_succ, List.getElem?_cons_zero]; rfl
              case hQ10z11 => exact fun _ _ _ h => h
              case hy10z11 => refine Or.inl ⟨by rfl, ?_⟩; intro w hSw; (try dsimp only at hSw); go_simp; try with_reducible rfl
              try simp only [Act.put, List.setIfInBounds_toArray, List.set_cons_zero, List.set_cons_succ]
              refine wpE_ready (rs := [11]) (by kernel_rfl) (by simp) ?_
              refine AllReadyE.cons rfl rfl (fun K hK => ?_) AllReadyE.nil
              obtain ⟨bN, hbN⟩ : ∃ b, wz10.heap.size = b := ⟨_, rfl⟩
              have hHz12 := hHz10.newblk bN 116 #[.int .i64 mv, .int .i64 k.g, .int .i64 k.lv, .int .i64 k.ro, .slice (some ⟨bZ, 0, none⟩) 8 8] hbN
              have bHz12 := below_new bHz10 hHz10 (.cells #[.int .i64 mv, .int .i64 k.g, .int .i64 k.lv, .int .i64 k.ro, .slice (some ⟨bZ, 0, none⟩) 8 8] 116)
              have sz12 := hid (show _ ∧ _ ∧ _ ∧ _ from ⟨(key_cells [_, _, _, _] hHz12).1, (key_cells [_, _, _, _] hHz12).2.1, (key_cells [_, _, _, _] hHz12).2.2, hHz12.cell [_, _, _, _, _] _ 2 (v := .slice ao q.length cap) rfl⟩)
              go_simp
              refine hK.out _ _ ?_ (fun hHeld => ?_)
              · exact sz12.out
              clear hK K
              try simp only [Act.put, List.setIfInBounds_toArray, List.set_cons_zero, List.set_cons_succ]
              generalize (wz10.alloc (.cells #[.int .i64 mv, .int .i64 k.g, .int .i64 k.lv, .int .i64 k.ro, .slice (some ⟨bZ, 0, none⟩) 8 8] 116)) = wz12 at *
              clear hHz10 bHz10 hbN sz12
              refine wpE_ready (rs := [12]) (by kernel_rfl) (by simp) ?_
              refine AllReadyE.cons rfl rfl (fun K hK => ?_) AllReadyE.nil
              refine step_append_row [_, _] _ hHz12 rfl (.tmp 64) (.tmp 69) 112 rfl j0 (.agg #[.int .i64 0, .int .i64 0, .int .i64 0, .int .i64 0, .slice none 0 0]) 56 Try.underlying112 hj0 jz0 jz1 jz2 rfl (by decide) rfl ⟨bN, 0, none⟩ 1 1 [.int .i64 mv, .int .i64 k.g, .int .i64 k.lv, .int .i64 k.ro, .slice (some ⟨bZ, 0, none⟩) 8 8] rfl rfl (blk_adds [] _ hHz12) (rpgL_one rfl) (by unfold maxLen; omega) (by omega) ?_
              intro gF capF wz13 hHz13 hBz13
              have bHz13 := bHz12.trans hBz13
              have sz13 := hid (show _ ∧ _ ∧ _ ∧ _ from ⟨(key_cells [_, _, _, _] hHz13).1, (key_cells [_, _, _, _] hHz13).2.1, (key_cells [_, _, _, _] hHz13).2.2, hHz13.cell [_, _, _, _, _] _ 2 (v := .slice ao q.length cap) rfl⟩)
              refine hK.out _ _ ?_ (fun hHeld => ?_)
              · exact sz13.out
              clear hK K
              try simp only [Act.put, List.setIfInBounds_toArray, List.set_cons_zero, List.set_cons_succ]
              clear hHz12 bHz12 hBz13 sz13
              refine wpE_take (i := 13) (oi := ?oi13z14) (v := ?v13z14) ?hi13z14 (by kernel_rfl) (by kernel_rfl) (by kernel_rfl) (by kernel_rfl) ?hQ13z14 ?hy13z14 (by assumption) ?rest13z14
              case hi13z14 => simp only [List.getElem?_toArray, List.getElem?_cons_succ, List.getElem?_cons_zero]; rfl
              case hQ13z14 => exact fun _ _ _ h => h
              case hy13z14 => refine Or.inl ⟨by rfl, ?_⟩; intro w hSw; (try dsimp only at hSw); go_simp; try with_reducible rfl
              try simp only [Act.put, List.setIfInBounds_toArray, List.set_cons_zero, List.set_cons_succ]
              refine wpE_take (i := 14) (oi := ?oi14z15) (v := ?v14z15) ?hi14z15 (by kernel_rfl) (by kernel_rfl) (by kernel_rfl) (by kernel_rfl) ?hQ14z15 ?hy14z15 (by assumption) ?rest14z15
              case hi14z15 => simp only [List.getElem?_toArray, List.getElem?_cons_succ, List.getElem?_cons_zero]; rfl
              case hQ14z15 => exact fun _ _ _ h => h
              case hy14z15 => refine Or.inl ⟨by rfl, ?_⟩; intro w hSw; (try dsimp only at hSw); go_simp; try with_reducible rfl
              try simp only [Act.put, List.setIfInBounds_toArray, List.set_cons_zero, List.set_cons_succ]
              refine wpE_ready (rs := [15]) (by kernel_rfl) (by simp) ?_
              refine AllReadyE.last rfl rfl (fun K hK => ?_) AllReadyE.nil
              have k4 := Has.frozen [_, _, _, _, _] _ hHz13 2
              have k5 := Has.cell [_, _, _, _, _] _ hHz13 2 (v := .slice ao q.length cap) rfl
              have hHz16 := Has.set [_, _, _, _, _] _ hHz13 2 (.slice (some ⟨gF, 0, none⟩) (q.length + 1) capF)
              have bHz16 := below_set bHz13 [_, _, _, _, _] _ hHz13 2 (.slice (some ⟨gF, 0, none⟩) (q.length + 1) capF)
              go_simp
              refine hK.out _ _ ?_
              clear hK K
              try simp only [Act.put, List.setIfInBounds_toArray, List.set_cons_zero, List.set_cons_succ]
              generalize (wz13.setCell ⟨sb, 2, none⟩ (.slice (some ⟨gF, 0, none⟩) (q.length + 1) capF)) = wz16 at *
              clear k4 k5 hHz13 bHz13
              refine wpE_done (by kernel_rfl) ?_ _
              have hM0 := Has.pick hHz16 [3, 5, 2, 7, 1]
              go_wp2_with fail
              go_meet
              case rel => exact ⟨_, _, rstT_out (p := newPg mv k) hM0, bHz16⟩
            · obtain ⟨bZ, hbZ⟩ : ∃ b, wz8.heap.size = b := ⟨_, rfl⟩
              have hzz17 := hHz8.newblk bZ 42 slots8C hbZ
              have hHz17 := Has.blk_row (n := 8) (size := 5) [] _ hzz17 rfl (by decide)
              have bHz17 := below_new bHz8 hHz8 (.cells slots8C 42)
              have sz17 := hid (show _ ∧ _ ∧ _ ∧ _ from ⟨(key_cells [_, _, _] hHz17).1, (key_cells [_, _, _] hHz17).2.1, (key_cells [_, _, _] hHz17).2.2, hHz17.cell [_, _, _, _] _ 2 (v := .slice ao q.length cap) rfl⟩)
              go_simp
              refine hK.out _ _ ?_ (fun hHeld => ?_)
              · exact sz17.out
              clear hK K
              try simp only [Act.put, List.setIfInBounds_toArray, List.set_cons_zero, List.set_cons_succ]
              generalize (wz8.alloc (.cells slots8C 42)) = wz17 at *
              clear hHz8 bHz8 hbZ sz17
              clear hzz17
              refine wpE_take (i := 10) (oi := ?oi10z18) (v := ?v10z18) ?hi10z18 (by kernel_rfl) (by kernel_rfl) (by kernel_rfl) (by kernel_rfl) ?hQ10z18 ?hy10z18 (by assumption) ?rest10z18
              case hi10z18 => simp only [List.getElem?_toArray, List.getElem?_cons_succ, List.getElem?_cons_zero]; rfl
              case hQ10z18 => exact fun _ _ _ h => h
              case hy10z18 => refine Or.inl ⟨by rfl, ?_⟩; intro w hSw; (try dsimp only at hSw); go_simp; try with_reducible rfl
              try simp only [Act.put, List.setIfInBounds_toArray, List.set_cons_zero, List.set_cons_succ]
              refine wpE_ready (rs := [6, 11]) (by kernel_rfl) (by simp) ?_
              refine AllReadyE.cons rfl rfl (fun K hK => ?_) (AllReadyE.cons rfl rfl (fun K hK => ?_) AllReadyE.nil)
              · have srcz19 := row_src [_, _, _, _, _] hHz17
                refine step_append_rows [_] _ hHz17 rfl (.tmp 59) (.tmp 63) 112 rfl j0 (.agg #[.int .i64 0, .int .i64 0, .int .i64 0, .int .i64 0, .slice none 0 0]) 56 Try.underlying112 hj0 jz0 jz1 jz2 rfl (by decide) rfl ao q.length cap (rpgsL q) rfl srcz19.1 (rpgsL_length q) srcz19.2 RW1.out (by unfold maxLen; omega) (by omega) ?_
                intro gE capE wz19 hHz19 hBz19
                simp only [Nat.zero_add, List.nil_append] at hHz19 ⊢
                have bHz19 := bHz17.trans hBz19
                have sz19 := hid (show _ ∧ _ ∧ _ ∧ _ from ⟨(key_cells [_, _, _] hHz19).1, (key_cells [_, _, _] hHz19).2.1, (key_cells [_, _, _] hHz19).2.2, hHz19.cell [_, _, _, _] _ 2 (v := .slice ao q.length cap) rfl⟩)
                refine hK.out _ _ ?_ (fun hHeld => ?_)
                · exact sz19.out
                clear hK K
                try simp only [Act.put, List.setIfInBounds_toArray, List.set_cons_zero, List.set_cons_succ]
                clear hHz17 bHz17 srcz19 hBz19 sz19
                refine wpE_ready (rs := [11]) (by kernel_rfl) (by simp) ?_
                refine AllReadyE.cons rfl rfl (fun K hK => ?_) AllReadyE.nil
                obtain ⟨bN, hbN⟩ : ∃ b, wz19.heap.size = b := ⟨_, rfl⟩
                have hHz20 := hHz19.newblk bN 116 #[.int .i64 mv, .int .i64 k.g, .int .i64 k.lv, .int .i64 k.ro, .slice (some ⟨bZ, 0, none⟩) 8 8] hbN
                have bHz20 := below_new bHz19 hHz19 (.cells #[.int .i64 mv, .int .i64 k.g, .int .i64 k.lv, .int .i64 k.ro, .slice (some ⟨bZ, 0, none⟩) 8 8] 116)
                have sz20 := hid (show _ ∧ _ ∧ _ ∧ _ from ⟨(key_cells [_, _, _, _] hHz20).1, (key_cells [_, _, _, _] hHz20).2.1, (key_cells [_, _, _, _] hHz20).2.2, hHz20.cell [_, _, _, _, _] _ 2 (v := .slice ao q.length cap) rfl⟩)
                go_simp
                refine hK.out _ _ ?_ (fun hHeld => ?_)
                · exact sz20.out
                clear hK K
                try simp only [Act.put, List.setIfInBounds_toArray, List.set_cons_zero, List.set_cons_succ]
                generalize (wz19.alloc (.cells #[.int .i64 mv, .int .i64 k.g, .int .i64 k.lv, .int .i64 k.ro, .slice (some ⟨bZ, 0, none⟩) 8 8] 116)) = wz20 at *
                clear hHz19 bHz19 hbN sz20
                refine wpE_ready (rs := [12]) (by kernel_rfl) (by simp) ?_
                refine AllReadyE.cons rfl rfl (fun K hK => ?_) AllReadyE.nil
                refine step_append_row [_, _] _ hHz20 rfl (.tmp 64) (.tmp 69) 112 rfl j0 (.agg #[.int .i64 0, .int .i64 0, .int .i64 0, .int .i64 0, .slice none 0 0]) 56 Try.underlying112 hj0 jz0 jz1 jz2 rfl (by decide) rfl ⟨bN, 0, none⟩ 1 1 [.int .i64 mv, .int .i64 k.g, .int .i64 k.lv, .int .i64 k.ro, .slice (some ⟨bZ, 0, none⟩) 8 8] rfl rfl (blk_adds [] _ hHz20) (rpgL_one rfl) (by unfold maxLen; omega) (by omega) ?_
                intro gF capF wz21 hHz21 hBz21
                have bHz21 := bHz20.trans hBz21
                have sz21 := hid (show _ ∧ _ ∧ _ ∧ _ from ⟨(key_cells [_, _, _, _] hHz21).1, (key_cells [_, _, _, _] hHz21).2.1, (key_cells [_, _, _, _] hHz21).2.2, hHz21.cell [_, _, _, _, _] _ 2 (v := .slice ao q.length cap) rfl⟩)
                refine hK.out _ _ ?_ (fun hHeld => ?_)
                · exact sz21.out
                clear hK K
                try simp only [Act.put, List.setIfInBounds_toArray, List.set_cons_zero, List.set_cons_succ]
                clear hHz20 bHz20 hBz21 sz21
                refine wpE_take (i := 13) (oi := ?oi13z22) (v := ?v13z22) ?hi13z22 (by kernel_rfl) (by kernel_rfl) (by kernel_rfl) (by kernel_rfl) ?hQ13z22 ?hy13z22 (by assumption) ?rest13z22
                case hi13z22 => simp only [List.getElem?_toArray, List.getElem?_cons_succ, List.getElem?_cons_zero]; rfl
                case hQ13z22 => exact fun _ _ _ h => h
                case hy13z22 => refine Or.inl ⟨by rfl, ?_⟩; intro w hSw; (try dsimp only at hSw); go_simp; try with_reducible rfl
                try simp only [Act.put, List.setIfInBounds_toArray, List.set_cons_zero, List.set_cons_succ]
                refine wpE_take (i := 14) (oi := ?oi14z23) (v := ?v14z23) ?hi14z23 (by kernel_rfl) (by kernel_rfl) (by kernel_rfl) (by kernel_rfl) ?hQ14z23 ?hy14z23 (by assumption) ?rest14z23
                case hi14z23 => simp only [List.getElem?_toArray, List.getElem?_cons_succ, List.getElem?_cons_zero]; rfl
                case hQ14z23 => exact fun _ _ _ h => h
                case hy14z23 => refine Or.inl ⟨by rfl, ?_⟩; intro w hSw; (try dsimp only at hSw); go_simp; try with_reducible rfl
                try simp only [Act.put, List.setIfInBounds_toArray, List.set_cons_zero, List.set_cons_succ]
                refine wpE_ready (rs := [15]) (by kernel_rfl) (by simp) ?_
                refine AllReadyE.last rfl rfl (fun K hK => ?_) AllReadyE.nil
                have k4 := Has.frozen [_, _, _, _, _] _ hHz21 2
                have k5 := Has.cell [_, _, _, _, _] _ hHz21 2 (v := .slice ao q.length cap) rfl
                have hHz24 := Has.set [_, _, _, _, _] _ hHz21 2 (.slice (some ⟨gF, 0, none⟩) (q.length + 1) capF)
                have bHz24 := below_set bHz21 [_, _, _, _, _] _ hHz21 2 (.slice (some ⟨gF, 0, none⟩) (q.length + 1) capF)
                go_simp
                refine hK.out _ _ ?_
                clear hK K
                try simp only [Act.put, List.setIfInBounds_toArray, List.set_cons_zero, List.set_cons_succ]
                generalize (wz21.setCell ⟨sb, 2, none⟩ (.slice (some ⟨gF, 0, none⟩) (q.length + 1) capF)) = wz24 at *
                clear k4 k5 hHz21 bHz21
                refine wpE_done (by kernel_rfl) ?_ _
                have hM0 := Has.pick hHz24 [3, 5, 2, 7, 1]
                go_wp2_with fail
                go_meet
                case rel => exact ⟨_, _, rstT_out (p := newPg mv k) hM0, bHz24⟩
              · obtain ⟨bN, hbN⟩ : ∃ b, wz17.heap.size = b := ⟨_, rfl⟩
                have hHz25 := hHz17.newblk bN 116 #[.int .i64 mv, .int .i64 k.g, .int .i64 k.lv, .int .i64 k.ro, .slice (some ⟨bZ, 0, none⟩) 8 8] hbN
                have bHz25 := below_new bHz17 hHz17 (.cells #[.int .i64 mv, .int .i64 k.g, .int .i64 k.lv, .int .i64 k.ro, .slice (some ⟨bZ, 0, none⟩) 8 8] 116)
                have sz25 := hid (show _ ∧ _ ∧ _ ∧ _ from ⟨(key_cells [_, _, _, _] hHz25).1, (key_cells [_, _, _, _] hHz25).2.1, (key_cells [_, _, _, _] hHz25).2.2, hHz25.cell [_, _, _, _, _] _ 2 (v := .slice ao q.length cap) rfl⟩)
                go_simp
                refine hK.out _ _ ?_ (fun hHeld => ?_)
                · exact sz25.out
                clear hK K
                try simp only [Act.put, List.setIfInBounds_toArray, List.set_cons_zero, List.set_cons_succ]
                generalize (wz17.alloc (.cells #[.int .i64 mv, .int .i64 k.g, .int .i64 k.lv, .int .i64 k.ro, .slice (some ⟨bZ, 0, none⟩) 8 8] 116)) = wz25 at *
                clear hHz17 bHz17 hbN sz25
                refine wpE_ready (rs := [6]) (by kernel_rfl) (by simp) ?_
                refine AllReadyE.cons rfl rfl (fun K hK => ?_) AllReadyE.nil
                have srcz26 := row_src [_, _, _, _, _, _] hHz25
                refine step_append_rows [_, _] _ hHz25 rfl (.tmp 59) (.tmp 63) 112 rfl j0 (.agg #[.int .i64 0, .int .i64 0, .int .i64 0, .int .i64 0, .slice none 0 0]) 56 Try.underlying112 hj0 jz0 jz1 jz2 rfl (by decide) rfl ao q.length cap (rpgsL q) rfl srcz26.1 (rpgsL_length q) srcz26.2 RW1.out (by unfold maxLen; omega) (by omega) ?_
                intro gE capE wz26 hHz26 hBz26
                simp only [Nat.zero_add, List.nil_append] at hHz26 ⊢
                have bHz26 := bHz25.trans hBz26
                have sz26 := hid (show _ ∧ _ ∧ _ ∧ _ from ⟨(key_cells [_, _, _, _] hHz26).1, (key_cells [_, _, _, _] hHz26).2.1, (key_cells [_, _, _, _] hHz26).2.2, hHz26.cell [_, _, _, _, _] _ 2 (v := .slice ao q.length cap) rfl⟩)
                refine hK.out _ _ ?_ (fun hHeld => ?_)
                · exact sz26.out
                clear hK K
                try simp only [Act.put, List.setIfInBounds_toArray, List.set_cons_zero, List.set_cons_succ]
                clear hHz25 bHz25 srcz26 hBz26 sz26
                refine wpE_ready (rs := [12]) (by kernel_rfl) (by simp) ?_
                refine AllReadyE.cons rfl rfl (fun K hK => ?_) AllReadyE.nil
                refine step_append_row [_, _] _ hHz26 rfl (.tmp 64) (.tmp 69) 112 rfl j0 (.agg #[.int .i64 0, .int .i64 0, .int .i64 0, .int .i64 0, .slice none 0 0]) 56 Try.underlying112 hj0 jz0 jz1 jz2 rfl (by decide) rfl ⟨bN, 0, none⟩ 1 1 [.int .i64 mv, .int .i64 k.g, .int .i64 k.lv, .int .i64 k.ro, .slice (some ⟨bZ, 0, none⟩) 8 8] rfl rfl (blk_adds [] _ hHz26) (rpgL_one rfl) (by unfold maxLen; omega) (by omega) ?_
                intro gF capF wz27 hHz27 hBz27
                have bHz27 := bHz26.trans hBz27
                have sz27 := hid (show _ ∧ _ ∧ _ ∧ _ from ⟨(key_cells [_, _, _, _] hHz27).1, (key_cells [_, _, _, _] hHz27).2.1, (key_cells [_, _, _, _] hHz27).2.2, hHz27.cell [_, _, _, _, _] _ 2 (v := .slice ao q.length cap) rfl⟩)
                refine hK.out _ _ ?_ (fun hHeld => ?_)
                · exact sz27.out
                clear hK K
                try simp only [Act.put, List.setIfInBounds_toArray, List.set_cons_zero, List.set_cons_succ]
                clear hHz26 bHz26 hBz27 sz27
                refine wpE_take (i := 13) (oi := ?oi13z28) (v := ?v13z28) ?hi13z28 (by kernel_rfl) (by kernel_rfl) (by kernel_rfl) (by kernel_rfl) ?hQ13z28 ?hy13z28 (by assumption) ?rest13z28
                case hi13z28 => simp only [List.getElem?_toArray, List.getElem?_cons_succ, List.getElem?_cons_zero]; rfl
                case hQ13z28 => exact fun _ _ _ h => h
                case hy13z28 => refine Or.inl ⟨by rfl, ?_⟩; intro w hSw; (try dsimp only at hSw); go_simp; try with_reducible rfl
                try simp only [Act.put, List.setIfInBounds_toArray, List.set_cons_zero, List.set_cons_succ]
                refine wpE_take (i := 14) (oi := ?oi14z29) (v := ?v14z29) ?hi14z29 (by kernel_rfl) (by kernel_rfl) (by kernel_rfl) (by kernel_rfl) ?hQ14z29 ?hy14z29 (by assumption) ?rest14z29
                case hi14z29 => simp only [List.getElem?_toArray, List.getElem?_cons_succ, List.getElem?_cons_zero]; rfl
                case hQ14z29 => exact fun _ _ _ h => h
                case hy14z29 => refine Or.inl ⟨by rfl, ?_⟩; intro w hSw; (try dsimp only at hSw); go_simp; try with_reducible rfl
                try simp only [Act.put, List.setIfInBounds_toArray, List.set_cons_zero, List.set_cons_succ]
                refine wpE_ready (rs := [15]) (by kernel_rfl) (by simp) ?_
                refine AllReadyE.last rfl rfl (fun K hK => ?_) AllReadyE.nil
                have k4 := Has.frozen [_, _, _, _, _] _ hHz27 2
                have k5 := Has.cell [_, _, _, _, _] _ hHz27 2 (v := .slice ao q.length cap) rfl
                have hHz30 := Has.set [_, _, _, _, _] _ hHz27 2 (.slice (some ⟨gF, 0, none⟩) (q.length + 1) capF)
                have bHz30 := below_set bHz27 [_, _, _, _, _] _ hHz27 2 (.slice (some ⟨gF, 0, none⟩) (q.length + 1) capF)
                go_simp
                refine hK.out _ _ ?_
                clear hK K
                try simp only [Act.put, List.setIfInBounds_toArray, List.set_cons_zero, List.set_cons_succ]
                generalize (wz27.setCell ⟨sb, 2, none⟩ (.slice (some ⟨gF, 0, none⟩) (q.length + 1) capF)) = wz30 at *
                clear k4 k5 hHz27 bHz27
                refine wpE_done (by kernel_rfl) ?_ _
                have hM0 := Has.pick hHz30 [3, 5, 2, 7, 1]
                go_wp2_with fail
                go_meet
                case rel => exact ⟨_, _, rstT_out (p := newPg mv k) hM0, bHz30⟩
          · obtain ⟨bZ, hbZ⟩ : ∃ b, wd.heap.size = b := ⟨_, rfl⟩
            have hzz31 := hD.newblk bZ 42 slots8C hbZ
            have hHz31 := Has.blk_row (n := 8) (size := 5) [] _ hzz31 rfl (by decide)
            have bHz31 := below_new bD hD (.cells slots8C 42)
            have sz31 := hid (show _ ∧ _ ∧ _ ∧ _ from ⟨(key_cells [_, _] hHz31).1, (key_cells [_, _] hHz31).2.1, (key_cells [_, _] hHz31).2.2, hHz31.cell [_, _, _] _ 2 (v := .slice ao q.length cap) rfl⟩)
            go_simp
            refine hK.out _ _ ?_ (fun hHeld => ?_)
            · exact sz31.out
            clear hK K
            try simp only [Act.put, List.setIfInBounds_toArray, List.set_cons_zero, List.set_cons_succ]
            generalize (wd.alloc (.cells slots8C 42)) = wz31 at *
            clear hD bD hbZ sz31
            clear hzz31
            refine wpE_take (i := 10) (oi := ?oi10z32) (v := ?v10z32) ?hi10z32 (by kernel_rfl) (by kernel_rfl) (by kernel_rfl) (by kernel_rfl) ?hQ10z32 ?hy10z32 (by assumption) ?rest10z32
            case hi10z32 => simp only [List.getElem?_toArray, List.getElem?_cons_succ, List.getElem?_cons_zero]; rfl
            case hQ10z32 => exact fun _ _ _ h => h
            case hy10z32 => refine Or.inl ⟨by rfl, ?_⟩; intro w hSw; (try dsimp only at hSw); go_simp; try with_reducible rfl
            try simp only [Act.put, List.setIfInBounds_toArray, List.set_cons_zero, List.set_cons_succ]
            refine wpE_ready (rs := [1, 11]) (by kernel_rfl) (by simp) ?_
            refine AllReadyE.cons rfl rfl (fun K hK => ?_) (AllReadyE.cons rfl rfl (fun K hK => ?_) AllReadyE.nil)
            · obtain ⟨bE, hbE⟩ : ∃ b, wz31.heap.size = b := ⟨_, rfl⟩
              have hHz33 := hHz31.newrow bE 116 5 hbE
              have bHz33 := below_new bHz31 hHz31 (.cells #[] 116)
              have sz33 := hid (show _ ∧ _ ∧ _ ∧ _ from ⟨(key_cells [_, _, _] hHz33).1, (key_cells [_, _, _] hHz33).2.1, (key_cells [_, _, _] hHz33).2.2, hHz33.cell [_, _, _, _] _ 2 (v := .slice ao q.length cap) rfl⟩)
              go_simp
              refine hK.out _ _ ?_ (fun hHeld => ?_)
              · exact sz33.out
              clear hK K
              try simp only [Act.put, List.setIfInBounds_toArray, List.set_cons_zero, List.set_cons_succ]
              generalize (wz31.alloc (.cells #[] 116)) = wz33 at *
              clear hHz31 bHz31 hbE sz33
              refine wpE_ready (rs := [6, 11]) (by kernel_rfl) (by simp) ?_
              refine AllReadyE.cons rfl rfl (fun K hK => ?_) (AllReadyE.cons rfl rfl (fun K hK => ?_) AllReadyE.nil)
              · have srcz34 := row_src [_, _, _, _, _] hHz33
                refine step_append_rows [] _ hHz33 rfl (.tmp 59) (.tmp 63) 112 rfl j0 (.agg #[.int .i64 0, .int .i64 0, .int .i64 0, .int .i64 0, .slice none 0 0]) 56 Try.underlying112 hj0 jz0 jz1 jz2 rfl (by decide) rfl ao q.length cap (rpgsL q) rfl srcz34.1 (rpgsL_length q) srcz34.2 RW1.out (by unfold maxLen; omega) (by omega) ?_
                intro gE capE wz34 hHz34 hBz34
                simp only [Nat.zero_add, List.nil_append] at hHz34 ⊢
                have bHz34 := bHz33.trans hBz34
                have sz34 := hid (show _ ∧ _ ∧ _ ∧ _ from ⟨(key_cells [_, _, _] hHz34).1, (key_cells [_, _, _] hHz34).2.1, (key_cells [_, _, _] hHz34).2.2, hHz34.cell [_, _, _, _] _ 2 (v := .slice ao q.length cap) rfl⟩)
                refine hK.out _ _ ?_ (fun hHeld => ?_)
                · exact sz34.out
                clear hK K
                try simp only [Act.put, List.setIfInBounds_toArray, List.set_cons_zero, List.set_cons_succ]
                clear hHz33 bHz33 srcz34 hBz34 sz34
                refine wpE_ready (rs := [11]) (by kernel_rfl) (by simp) ?_
                refine AllReadyE.cons rfl rfl (fun K hK => ?_) AllReadyE.nil
                obtain ⟨bN, hbN⟩ : ∃ b, wz34.heap.size = b := ⟨_, rfl⟩
                have hHz35 := hHz34.newblk bN 116 #[.int .i64 mv, .int .i64 k.g, .int .i64 k.lv, .int .i64 k.ro, .slice (some ⟨bZ, 0, none⟩) 8 8] hbN
                have bHz35 := below_new bHz34 hHz34 (.cells #[.int .i64 mv, .int .i64 k.g, .int .i64 k.lv, .int .i64 k.ro, .slice (some ⟨bZ, 0, none⟩) 8 8] 116)
                have sz35 := hid (show _ ∧ _ ∧ _ ∧ _ from ⟨(key_cells [_, _, _, _] hHz35).1, (key_cells [_, _, _, _] hHz35).2.1, (key_cells [_, _, _, _] hHz35).2.2, hHz35.cell [_, _, _, _, _] _ 2 (v := .slice ao q.length cap) rfl⟩)
                go_simp
                refine hK.out _ _ ?_ (fun hHeld => ?_)
                · exact sz35.out
                clear hK K
                try simp only [Act.put, List.setIfInBounds_toArray, List.set_cons_zero, List.set_cons_succ]
                generalize (wz34.alloc (.cells #[.int .i64 mv, .int .i64 k.g, .int .i64 k.lv, .int .i64 k.ro, .slice (some ⟨bZ, 0, none⟩) 8 8] 116)) = wz35 at *
                clear hHz34 bHz34 hbN sz35
                refine wpE_ready (rs := [12]) (by kernel_rfl) (by simp) ?_
                refine AllReadyE.cons rfl rfl (fun K hK => ?_) AllReadyE.nil
                refine step_append_row [_] _ hHz35 rfl (.tmp 64) (.tmp 69) 112 rfl j0 (.agg #[.int .i64 0, .int .i64 0, .int .i64 0, .int .i64 0, .slice none 0 0]) 56 Try.underlying112 hj0 jz0 jz1 jz2 rfl (by decide) rfl ⟨bN, 0, none⟩ 1 1 [.int .i64 mv, .int .i64 k.g, .int .i64 k.lv, .int .i64 k.ro, .slice (some ⟨bZ, 0, none⟩) 8 8] rfl rfl (blk_adds [] _ hHz35) (rpgL_one rfl) (by unfold maxLen; omega) (by omega) ?_
                intro gF capF wz36 hHz36 hBz36
                have bHz36 := bHz35.trans hBz36
                have sz36 := hid (show _ ∧ _ ∧ _ ∧ _ from ⟨(key_cells [_, _, _, _] hHz36).1, (key_cells [_, _, _, _] hHz36).2.1, (key_cells [_, _, _, _] hHz36).2.2, hHz36.cell [_, _, _, _, _] _ 2 (v := .slice ao q.length cap) rfl⟩)
                refine hK.out _ _ ?_ (fun hHeld => ?_)
                · exact sz36.out
                clear hK K
                try simp only [Act.put, List.setIfInBounds_toArray, List.set_cons_zero, List.set_cons_succ]
                clear hHz35 bHz35 hBz36 sz36
                refine wpE_take (i := 13) (oi := ?oi13z37) (v := ?v13z37) ?hi13z37 (by kernel_rfl) (by kernel_rfl) (by kernel_rfl) (by kernel_rfl) ?hQ13z37 ?hy13z37 (by assumption) ?rest13z37
                case hi13z37 => simp only [List.getElem?_toArray, List.getElem?_cons_succ, List.getElem?_cons_zero]; rfl
                case hQ13z37 => exact fun _ _ _ h => h
                case hy13z37 => refine Or.inl ⟨by rfl, ?_⟩; intro w hSw; (try dsimp only at hSw); go_simp; try with_reducible rfl
                try simp only [Act.put, List.setIfInBounds_toArray, List.set_cons_zero, List.set_cons_succ]
                refine wpE_take (i := 14) (oi := ?oi14z38) (v := ?v14z38) ?hi14z38 (by kernel_rfl) (by kernel_rfl) (by kernel_rfl) (by kernel_rfl) ?hQ14z38 ?hy14z38 (by assumption) ?rest14z38
                case hi14z38 => simp only [List.getElem?_toArray, List.getElem?_cons_succ, List.getElem?_cons_zero]; rfl
                case hQ14z38 => exact fun _ _ _ h => h
                case hy14z38 => refine Or.inl ⟨by rfl, ?_⟩; intro w hSw; (try dsimp only at hSw); go_simp; try with_reducible rfl
                try simp only [Act.put, List.setIfInBounds_toArray, List.set_cons_zero, List.set_cons_succ]
                refine wpE_ready (rs := [15]) (by kernel_rfl) (by simp) ?_
                refine AllReadyE.last rfl rfl (fun K hK => ?_) AllReadyE.nil
                have k4 := Has.frozen [_, _, _, _, _] _ hHz36 2
                have k5 := Has.cell [_, _, _, _, _] _ hHz36 2 (v := .slice ao q.length cap) rfl
                have hHz39 := Has.set [_, _, _, _, _] _ hHz36 2 (.slice (some ⟨gF, 0, none⟩) (q.length + 1) capF)
                have bHz39 := below_set bHz36 [_, _, _, _, _] _ hHz36 2 (.slice (some ⟨gF, 0, none⟩) (q.length + 1) capF)
                go_simp
                refine hK.out _ _ ?_
                clear hK K
                try simp only [Act.put, List.setIfInBounds_toArray, List.set_cons_zero, List.set_cons_succ]
                generalize (wz36.setCell ⟨sb, 2, none⟩ (.slice (some ⟨gF, 0, none⟩) (q.length + 1) capF)) = wz39 at *
                clear k4 k5 hHz36 bHz36
                refine wpE_done (by kernel_rfl) ?_ _
                have hM0 := Has.pick hHz39 [3, 5, 1, 7, 2]
                go_wp2_with fail
                go_meet
                case rel => exact ⟨_, _, rstT_out (p := newPg mv k) hM0, bHz39⟩
              · obtain ⟨bN, hbN⟩ : ∃ b, wz33.heap.size = b := ⟨_, rfl⟩
                have hHz40 := hHz33.newblk bN 116 #[.int .i64 mv, .int .i64 k.g, .int .i64 k.lv, .int .i64 k.ro, .slice (some ⟨bZ, 0, none⟩) 8 8] hbN
                have bHz40 := below_new bHz33 hHz33 (.cells #[.int .i64 mv, .int .i64 k.g, .int .i64 k.lv, .int .i64 k.ro, .slice (some ⟨bZ, 0, none⟩) 8 8] 116)
                have sz40 := hid (show _ ∧ _ ∧ _ ∧ _ from ⟨(key_cells [_, _, _, _] hHz40).1, (key_cells [_, _, _, _] hHz40).2.1, (key_cells [_, _, _, _] hHz40).2.2, hHz40.cell [_, _, _, _, _] _ 2 (v := .slice ao q.length cap) rfl⟩)
                go_simp
                refine hK.out _ _ ?_ (fun hHeld => ?_)
                · exact sz40.out
                clear hK K
                try simp only [Act.put, List.setIfInBounds_toArray, List.set_cons_zero, List.set_cons_succ]
                generalize (wz33.alloc (.cells #[.int .i64 mv, .int .i64 k.g, .int .i64 k.lv, .int .i64 k.ro, .slice (some ⟨bZ, 0, none⟩) 8 8] 116)) = wz40 at *
                clear hHz33 bHz33 hbN sz40
                refine wpE_ready (rs := [6]) (by kernel_rfl) (by simp) ?_
                refine AllReadyE.cons rfl rfl (fun K hK => ?_) AllReadyE.nil
                have srcz41 := row_src [_, _, _, _, _, _] hHz40
                refine step_append_rows [_] _ hHz40 rfl (.tmp 59) (.tmp 63) 112 rfl j0 (.agg #[.int .i64 0, .int .i64 0, .int .i64 0, .int .i64 0, .slice none 0 0]) 56 Try.underlying112 hj0 jz0 jz1 jz2 rfl (by decide) rfl ao q.length cap (rpgsL q) rfl srcz41.1 (rpgsL_length q) srcz41.2 RW1.out (by unfold maxLen; omega) (by omega) ?_
                intro gE capE wz41 hHz41 hBz41
                simp only [Nat.zero_add, List.nil_append] at hHz41 ⊢
                have bHz41 := bHz40.trans hBz41
                have sz41 := hid (show _ ∧ _ ∧ _ ∧ _ from ⟨(key_cells [_, _, _, _] hHz41).1, (key_cells [_, _, _, _] hHz41).2.1, (key_cells [_, _, _, _] hHz41).2.2, hHz41.cell [_, _, _, _, _] _ 2 (v := .slice ao q.length cap) rfl⟩)
                refine hK.out _ _ ?_ (fun hHeld => ?_)
                · exact sz41.out
                clear hK K
                try simp only [Act.put, List.setIfInBounds_toArray, List.set_cons_zero, List.set_cons_succ]
                clear hHz40 bHz40 srcz41 hBz41 sz41
                refine wpE_ready (rs := [12]) (by kernel_rfl) (by simp) ?_
                refine AllReadyE.cons rfl rfl (fun K hK => ?_) AllReadyE.nil
                refine step_append_row [_] _ hHz41 rfl (.tmp 64) (.tmp 69) 112 rfl j0 (.agg #[.int .i64 0, .int .i64 0, .int .i64 0, .int .i64 0, .slice none 0 0]) 56 Try.underlying112 hj0 jz0 jz1 jz2 rfl (by decide) rfl ⟨bN, 0, none⟩ 1 1 [.int .i64 mv, .int .i64 k.g, .int .i64 k.lv, .int .i64 k.ro, .slice (some ⟨bZ, 0, none⟩) 8 8] rfl rfl (blk_adds [] _ hHz41) (rpgL_one rfl) (by unfold maxLen; omega) (by omega) ?_
                intro gF capF wz42 hHz42 hBz42
                have bHz42 := bHz41.trans hBz42
                have sz42 := hid (show _ ∧ _ ∧ _ ∧ _ from ⟨(key_cells [_, _, _, _] hHz42).1, (key_cells [_, _, _, _] hHz42).2.1, (key_cells [_, _, _, _] hHz42).2.2, hHz42.cell [_, _, _, _, _] _ 2 (v := .slice ao q.length cap) rfl⟩)
                refine hK.out _ _ ?_ (fun hHeld => ?_)
                · exact sz42.out
                clear hK K
                try simp only [Act.put, List.setIfInBounds_toArray, List.set_cons_zero, List.set_cons_succ]
                clear hHz41 bHz41 hBz42 sz42
                refine wpE_take (i := 13) (oi := ?oi13z43) (v := ?v13z43) ?hi13z43 (by kernel_rfl) (by kernel_rfl) (by kernel_rfl) (by kernel_rfl) ?hQ13z43 ?hy13z43 (by assumption) ?rest13z43
                case hi13z43 => simp only [List.getElem?_toArray, List.getElem?_cons_succ, List.getElem?_cons_zero]; rfl
                case hQ13z43 => exact fun _ _ _ h => h
                case hy13z43 => refine Or.inl ⟨by rfl, ?_⟩; intro w hSw; (try dsimp only at hSw); go_simp; try with_reducible rfl
                try simp only [Act.put, List.setIfInBounds_toArray, List.set_cons_zero, List.set_cons_succ]
                refine wpE_take (i := 14) (oi := ?oi14z44) (v := ?v14z44) ?hi14z44 (by kernel_rfl) (by kernel_rfl) (by kernel_rfl) (by kernel_rfl) ?hQ14z44 ?hy14z44 (by assumption) ?rest14z44
                case hi14z44 => simp only [List.getElem?_toArray, List.getElem?_cons_succ, List.getElem?_cons_zero]; rfl
                case hQ14z44 => exact fun _ _ _ h => h
                case hy14z44 => refine Or.inl ⟨by rfl, ?_⟩; intro w hSw; (try dsimp only at hSw); go_simp; try with_reducible rfl
                try simp only [Act.put, List.setIfInBounds_toArray, List.set_cons_zero, List.set_cons_succ]
                refine wpE_ready (rs := [15]) (by kernel_rfl) (by simp) ?_
                refine AllReadyE.last rfl rfl (fun K hK => ?_) AllReadyE.nil
                have k4 := Has.frozen [_, _, _, _, _] _ hHz42 2
                have k5 := Has.cell [_, _, _, _, _] _ hHz42 2 (v := .slice ao q.length cap) rfl
                have hHz45 := Has.set [_, _, _, _, _] _ hHz42 2 (.slice (some ⟨gF, 0, none⟩) (q.length + 1) capF)
                have bHz45 := below_set bHz42 [_, _, _, _, _] _ hHz42 2 (.slice (some ⟨gF, 0, none⟩) (q.length + 1) capF)
                go_simp
                refine hK.out _ _ ?_
                clear hK K
                try simp only [Act.put, List.setIfInBounds_toArray, List.set_cons_zero, List.set_cons_succ]
                generalize (wz42.setCell ⟨sb, 2, none⟩ (.slice (some ⟨gF, 0, none⟩) (q.length + 1) capF)) = wz45 at *
                clear k4 k5 hHz42 bHz42
                refine wpE_done (by kernel_rfl) ?_ _
                have hM0 := Has.pick hHz45 [3, 5, 1, 7, 2]
                go_wp2_with fail
                go_meet
                case rel => exact ⟨_, _, rstT_out (p := newPg mv k) hM0, bHz45⟩
            · obtain ⟨bN, hbN⟩ : ∃ b, wz31.heap.size = b := ⟨_, rfl⟩
              have hHz46 := hHz31.newblk bN 116 #[.int .i64 mv, .int .i64 k.g, .int .i64 k.lv, .int .i64 k.ro, .slice (some ⟨bZ, 0, none⟩) 8 8] hbN
              have bHz46 := below_new bHz31 hHz31 (.cells #[.int .i64 mv, .int .i64 k.g, .int .i64 k.lv, .int .i64 k.ro, .slice (some ⟨bZ, 0, none⟩) 8 8] 116)
              have sz46 := hid (show _ ∧ _ ∧ _ ∧ _ from ⟨(key_cells [_, _, _] hHz46).1, (key_cells [_, _, _] hHz46).2.1, (key_cells [_, _, _] hHz46).2.2, hHz46.cell [_, _, _, _] _ 2 (v := .slice ao q.length cap) rfl⟩)
              go_simp
              refine hK.out _ _ ?_ (fun hHeld => ?_)
              · exact sz46.out
              clear hK K
              try simp only [Act.put, List.setIfInBounds_toArray, List.set_cons_zero, List.set_cons_succ]
              generalize (wz31.alloc (.cells #[.int .i64 mv, .int .i64 k.g, .int .i64 k.lv, .int .i64 k.ro, .slice (some ⟨bZ, 0, none⟩) 8 8] 116)) = wz46 at *
              clear hHz31 bHz31 hbN sz46
              refine wpE_ready (rs := [1]) (by kernel_rfl) (by simp) ?_
              refine AllReadyE.cons rfl rfl (fun K hK => ?_) AllReadyE.nil
              obtain ⟨bE, hbE⟩ : ∃ b, wz46.heap.size = b := ⟨_, rfl⟩
              have hHz47 := hHz46.newrow bE 116 5 hbE
              have bHz47 := below_new bHz46 hHz46 (.cells #[] 116)
              have sz47 := hid (show _ ∧ _ ∧ _ ∧ _ from ⟨(key_cells [_, _, _, _] hHz47).1, (key_cells [_, _, _, _] hHz47).2.1, (key_cells [_, _, _, _] hHz47).2.2, hHz47.cell [_, _, _, _, _] _ 2 (v := .slice ao q.length cap) rfl⟩)
              go_simp
              refine hK.out _ _ ?_ (fun hHeld => ?_)
              · exact sz47.out
              clear hK K
              try simp only [Act.put, List.setIfInBounds_toArray, List.set_cons_zero, List.set_cons_succ]
              generalize (wz46.alloc (.cells #[] 116)) = wz47 at *
              clear hHz46 bHz46 hbE sz47
              refine wpE_ready (rs := [6]) (by kernel_rfl) (by simp) ?_
              refine AllReadyE.cons rfl rfl (fun K hK => ?_) AllReadyE.nil
              have srcz48 := row_src [_, _, _, _, _, _] hHz47
              refine step_append_rows [] _ hHz47 rfl (.tmp 59) (.tmp 63) 112 rfl j0 (.agg #[.int .i64 0, .int .i64 0, .int .i64 0, .int .i64 0, .slice none 0 0]) 56 Try.underlying112 hj0 jz0 jz1 jz2 rfl (by decide) rfl ao q.length cap (rpgsL q) rfl srcz48.1 (rpgsL_length q) srcz48.2 RW1.out (by unfold maxLen; omega) (by omega) ?_
              intro gE capE wz48 hHz48 hBz48
              simp only [Nat.zero_add, List.nil_append] at hHz48 ⊢
              have bHz48 := bHz47.trans hBz48
              have sz48 := hid (show _ ∧ _ ∧ _ ∧ _ from ⟨(key_cells [_, _, _, _] hHz48).1, (key_cells [_, _, _, _] hHz48).2.1, (key_cells [_, _, _, _] hHz48).2.2, hHz48.cell [_, _, _, _, _] _ 2 (v := .slice ao q.length cap) rfl⟩)
              refine hK.out _ _ ?_ (fun hHeld => ?_)
              · exact sz48.out
              clear hK K
              try simp only [Act.put, List.setIfInBounds_toArray, List.set_cons_zero, List.set_cons_succ]
              clear hHz47 bHz47 srcz48 hBz48 sz48
              refine wpE_ready (rs := [12]) (by kernel_rfl) (by simp) ?_
              refine AllReadyE.cons rfl rfl (fun K hK => ?_) AllReadyE.nil
              refine step_append_row [] _ hHz48 rfl (.tmp 64) (.tmp 69) 112 rfl j0 (.agg #[.int .i64 0, .int .i64 0, .int .i64 0, .int .i64 0, .slice none 0 0]) 56 Try.underlying112 hj0 jz0 jz1 jz2 rfl (by decide) rfl ⟨bN, 0, none⟩ 1 1 [.int .i64 mv, .int .i64 k.g, .int .i64 k.lv, .int .i64 k.ro, .slice (some ⟨bZ, 0, none⟩) 8 8] rfl rfl (blk_adds [_] _ hHz48) (rpgL_one rfl) (by unfold maxLen; omega) (by omega) ?_
              intro gF capF wz49 hHz49 hBz49
              have bHz49 := bHz48.trans hBz49
              have sz49 := hid (show _ ∧ _ ∧ _ ∧ _ from ⟨(key_cells [_, _, _, _] hHz49).1, (key_cells [_, _, _, _] hHz49).2.1, (key_cells [_, _, _, _] hHz49).2.2, hHz49.cell [_, _, _, _, _] _ 2 (v := .slice ao q.length cap) rfl⟩)
              refine hK.out _ _ ?_ (fun hHeld => ?_)
              · exact sz49.out
              clear hK K
              try simp only [Act.put, List.setIfInBounds_toArray, List.set_cons_zero, List.set_cons_succ]
              clear hHz48 bHz48 hBz49 sz49
              refine wpE_take (i := 13) (oi := ?oi13z50) (v := ?v13z50) ?hi13z50 (by kernel_rfl) (by kernel_rfl) (by kernel_rfl) (by kernel_rfl) ?hQ13z50 ?hy13z50 (by assumption) ?rest13z50
              case hi13z50 => simp only [List.getElem?_toArray, List.getElem?_cons_succ, List.getElem?_cons_zero]; rfl
              case hQ13z50 => exact fun _ _ _ h => h
              case hy13z50 => refine Or.inl ⟨by rfl, ?_⟩; intro w hSw; (try dsimp only at hSw); go_simp; try with_reducible rfl
              try simp only [Act.put, List.setIfInBounds_toArray, List.set_cons_zero, List.set_cons_succ]
              refine wpE_take (i := 14) (oi := ?oi14z51) (v := ?v14z51) ?hi14z51 (by kernel_rfl) (by kernel_rfl) (by kernel_rfl) (by kernel_rfl) ?hQ14z51 ?hy14z51 (by assumption) ?rest14z51
              case hi14z51 => simp only [List.getElem?_toArray, List.getElem?_cons_succ, List.getElem?_cons_zero]; rfl
              case hQ14z51 => exact fun _ _ _ h => h
              case hy14z51 => refine Or.inl ⟨by rfl, ?_⟩; intro w hSw; (try dsimp only at hSw); go_simp; try with_reducible rfl
              try simp only [Act.put, List.setIfInBounds_toArray, List.set_cons_zero, List.set_cons_succ]
              refine wpE_ready (rs := [15]) (by kernel_rfl) (by simp) ?_
              refine AllReadyE.last rfl rfl (fun K hK => ?_) AllReadyE.nil
              have k4 := Has.frozen [_, _, _, _, _] _ hHz49 2
              have k5 := Has.cell [_, _, _, _, _] _ hHz49 2 (v := .slice ao q.length cap) rfl
              have hHz52 := Has.set [_, _, _, _, _] _ hHz49 2 (.slice (some ⟨gF, 0, none⟩) (q.length + 1) capF)
              have bHz52 := below_set bHz49 [_, _, _, _, _] _ hHz49 2 (.slice (some ⟨gF, 0, none⟩) (q.length + 1) capF)
              go_simp
              refine hK.out _ _ ?_
              clear hK K
              try simp only [Act.put, List.setIfInBounds_toArray, List.set_cons_zero, List.set_cons_succ]
              generalize (wz49.setCell ⟨sb, 2, none⟩ (.slice (some ⟨gF, 0, none⟩) (q.length + 1) capF)) = wz52 at *
              clear k4 k5 hHz49 bHz49
              refine wpE_done (by kernel_rfl) ?_ _
              have hM0 := Has.pick hHz52 [3, 5, 0, 7, 2]
              go_wp2_with fail
              go_meet
              case rel => exact ⟨_, _, rstT_out (p := newPg mv k) hM0, bHz52⟩
        case rest =>
          obtain ⟨u, v', hM, bM⟩ := hcut
          clear hD0 bN
          have hM0 := RStA.shut (n := n) fb _ _ (by rw [List.map_append, HQ.out, ← HTV.out]; exact HP.out.make (findK_none HFB.out HXB.out) (rightK_yes HRB.out HXB.out) HTB.out) hM
          have hq2 : (q ++ [(u, newPg mv k)]).map Prod.snd = S.ps ++ [newPg mv k] := by rw [List.map_append, HQ.out]; rfl
          rw [hq2] at hM0
          have hRG : 0 ≤ mv ∧ mv < (n : Int) := by
            have h1 := HP.out.ff.rg _ (takeV_mem HTB.out)
            rw [HTV.out] at h1
            have h2 := HP.out.hn
            have h3 := HP.out.ff.a1
            omega
          have hM1 : Has wc B (RMemA hb n (zeroW n S.W mv 0) :: RStA sb hb n first many S.F.dropLast (S.ps ++ [newPg mv k]) :: X) := hM0.perm (List.Perm.swap _ _ _)
          have hWl : S.W.length = n * 8 := by
            obtain ⟨_, h, _⟩ := RMemA.open hM1
            exact h.2.2
          have HZ := hid (zeroW_fill n S.W mv hRG hWl)
          have HMS := hid (show makeS n S k = ⟨fillW S.W n mv (List.replicate 8 0), S.F.dropLast, S.ps ++ [newPg mv k]⟩ from by unfold makeS; rw [HMB.out, HTV.out]; rfl)
          clear hM hM0 hq2 hRG hWl
          go_wp2_with fail
          go_loopg [10] 8 (fun g i wr => ∃ j : Nat, g + j = 8 ∧ i = .int .i64 j ∧ Has wr B (RMemA hb n (zeroW n S.W mv j) :: RStA sb hb n first many S.F.dropLast (S.ps ++ [newPg mv k]) :: X) ∧ Below B w wr)
          case atStart => exact ⟨0, by omega, rfl, hM1, bM⟩
          case round =>
            obtain ⟨j, hj, rfl, hHr, hBr⟩ := hrel
            have HJ := hid hj
            clear hM1 bM hj
            by_cases hlt : j < 8
            · have hlt' : (j : Int) < 8 := by omega
              have h0 : Has wr B (RStA sb hb n first many S.F.dropLast (S.ps ++ [newPg mv k]) :: RMemA hb n (zeroW n S.W mv j) :: X) := hHr.perm (List.Perm.swap _ _ _)
              obtain ⟨_, fb2, v2, q2, _, _, hO2⟩ := RStA.openX h0
              have c0 := hO2.cell [] _ 0 (v := ptrV hb) rfl
              unfold ptrV at c0
              have CS := hid (RSet_calls hb n (zeroW n S.W mv j) mv j 0 wr B _ hHr)
              clear h0 hO2 hHr
              go_wp2_with fail
              refine CS.out.mono ?_
              rintro e w5 ⟨rfl, hH5, hB5⟩
              clear CS c0
              go_wp2_with fail
              go_roundg (gk - 1)
              case measure => have := HJ.out; omega
              case rel => exact ⟨j + 1, by have := HJ.out; omega, by go_num, by rw [zeroW_succ]; exact hH5, hBr.trans hB5⟩
            · obtain rfl : j = 8 := by have := HJ.out; omega
              clear HJ hlt
              go_wp2_with fail
              go_ret2
              refine ⟨rfl, ?_, hBr⟩
              rw [HMS.out, ← HZ.out]
              exact hHr.perm (List.Perm.swap _ _ _)

end Go.Proofs.Yteeapkndappnoaa

/-
  The document's store: Drop.
-/
namespace Go.Proofs.Yteeapkndappnoaa
open Go.RowKit Go.Shelf
set_option linter.unusedVariables false
set_option linter.unusedSimpArgs false

/-- A slice of a slice of the call's own, from k on. -/
theorem cut_fromS {P : Program} {t e : TypeId} {s : Nat} (ht : P.underlying t = some (.slice e)) (hel : P.elem t = e) (hz : ∀ W, Sem.run P (sizeOf e) W = .ok s W) (ao : Option Addr) (n cp k : Nat) (hk : k ≤ n) (W : World) :
    Sem.run P (Instr.slice t (.slice ao n cp) (some (.int .i64 (k : Int))) none none) W = .ok (.slice (if cp = k then ao else ao.map (·.add (k * s))) (n - k) (cp - k)) W := by
  rw [run_slice_l (P := P) W t ao n cp (by rw [hel]; exact ht) .i64 k (by omega) (by omega), hel, hz]
  simp [Result.andThen, sliced]
theorem cut_toS {P : Program} {t e : TypeId} {s : Nat} (ht : P.underlying t = some (.slice e)) (hel : P.elem t = e) (hz : ∀ W, Sem.run P (sizeOf e) W = .ok s W) (g n cp k : Nat) (hk : k ≤ n) (hc : n ≤ cp) (W : World) :
    Sem.run P (Instr.slice t (.slice (some ⟨g, 0, none⟩) n cp) none (some (.int .i64 (k : Int))) none) W = .ok (.slice (some ⟨g, 0, none⟩) k cp) W := by
  rw [run_slice_h (P := P) W t _ n cp (by rw [hel]; exact ht) .i64 k (by omega) (by omega), hel, hz]
  simp [Result.andThen, sliced, addr_add]
theorem pgZz (W : World) : Sem.run Try.prog (sizeOf 116) W = .ok 5 W := by kernel_rfl
theorem elPg : Try.prog.elem 112 = 116 := by kernel_rfl
theorem rpgsL_take (q : List (Value × PageS)) (k : Nat) : (rpgsL q).take (k * 5) = rpgsL (q.take k) := by
  induction q generalizing k with
  | nil => simp [rpgsL]
  | cons x q ih =>
    cases k with
    | zero => simp [rpgsL]
    | succ k =>
      have e : rpgsL (x :: q) = rpgL x ++ rpgsL q := rfl
      have e2 : rpgsL ((x :: q).take (k + 1)) = rpgL x ++ rpgsL (q.take k) := rfl
      rw [e, e2, ← ih k, show (k + 1) * 5 = (rpgL x).length + k * 5 from by show _ = 5 + _; omega, List.take_length_add_append]
theorem rpgsL_drop (q : List (Value × PageS)) (k : Nat) : (rpgsL q).drop (k * 5) = rpgsL (q.drop k) := by
  induction q generalizing k with
  | nil => simp [rpgsL]
  | cons x q ih =>
    cases k with
    | zero => simp [rpgsL]
    | succ k =>
      have e : rpgsL (x :: q) = rpgL x ++ rpgsL q := rfl
      have e2 : rpgsL ((x :: q).drop (k + 1)) = rpgsL (q.drop k) := rfl
      rw [e, e2, ← ih k, show (k + 1) * 5 = (rpgL x).length + k * 5 from by show _ = 5 + _; omega, List.drop_length_add_append]
/-- The pages behind one, as a slice: there is an address, if there is a first one. -/
theorem cut_pgs (g cp k : Nat) (q : List (Value × PageS)) (hk : k ≤ q.length) (hcap : q.length ≤ cp) : ∃ ad' c', (∀ W, Sem.run Try.prog (Instr.slice 112 (.slice (some ⟨g, 0, none⟩) q.length cp) (some (.int .i64 (k : Int))) none none) W = .ok (.slice (some ad') (q.drop k).length c') W) ∧
    ∀ W : World, (∀ j u, (rpgsL q)[j]? = some u → W.cell? ⟨g, j, none⟩ = some u) → ∀ j u, (rpgsL (q.drop k))[j]? = some u → W.cell? (ad'.add j) = some u := by
  refine ⟨if cp = k then ⟨g, 0, none⟩ else (⟨g, 0, none⟩ : Addr).add (k * 5), cp - k, fun W => ?_, fun W hc j u hj => ?_⟩
  · rw [cut_fromS Try.underlying112 elPg pgZz (some ⟨g, 0, none⟩) q.length cp k hk W, List.length_drop]
    by_cases h : cp = k
    · rw [if_pos h, if_pos h]
    · rw [if_neg h, if_neg h]; rfl
  · have hjl := (List.getElem?_eq_some_iff.1 hj).1
    rw [rpgsL_length, List.length_drop] at hjl
    rw [if_neg (by omega)]
    rw [← rpgsL_drop, List.getElem?_drop] at hj
    have := hc _ u hj
    rw [addr_add, addr_add, Nat.zero_add]
    exact this
theorem rstT_less {sb hb fb n j : Nat} {v : Value} {first many : Int} {F W : List Int} {q : List (Value × PageS)} {w : World} {B : Nat} {X : List Asr} {x : Value × PageS} (hx : q[j]? = some x)
    (h : Has w B [rstT hb n q W X, blk sb 114 #[ptrV hb, ptrV fb, v], row 116 5 v (j + (q.drop (j + 1)).length) (rpgsL (q.take j) ++ rpgsL (q.drop (j + 1))), RefA fb first many F]) :
    Has w B (rstX sb hb fb v first many F (q.eraseIdx j) (RMemA hb n W :: X)) := by
  have hj := (List.getElem?_eq_some_iff.1 hx).1
  have h2 := Has.open_all h
  rw [rws_split hx] at h2
  have h3 : Has w B (rws (q.take j) ++ row 42 5 x.1 8 (slotsL x.2.s) :: (rws (q.drop (j + 1)) ++ (RMemA hb n W :: X) ++ [blk sb 114 #[ptrV hb, ptrV fb, v], row 116 5 v (j + (q.drop (j + 1)).length) (rpgsL (q.take j) ++ rpgsL (q.drop (j + 1))), RefA fb first many F])) := by simpa using h2
  have h4 := (Has.front _ _ h3).drop
  have h5 : Has w B ((rws (q.take j) ++ (rws (q.drop (j + 1)) ++ (RMemA hb n W :: X))) ++ [blk sb 114 #[ptrV hb, ptrV fb, v], row 116 5 v (j + (q.drop (j + 1)).length) (rpgsL (q.take j) ++ rpgsL (q.drop (j + 1))), RefA fb first many F]) := by simpa using h4
  have h6 := h5.perm List.perm_append_comm
  unfold rstX
  have e1 : (q.eraseIdx j).length = j + (q.drop (j + 1)).length := by rw [List.length_eraseIdx, if_pos hj, List.length_drop]; omega
  have e2 : rpgsL (q.eraseIdx j) = rpgsL (q.take j) ++ rpgsL (q.drop (j + 1)) := by rw [List.eraseIdx_eq_take_drop_succ]; simp [rpgsL]
  have e3 : rws (q.eraseIdx j) = rws (q.take j) ++ rws (q.drop (j + 1)) := by rw [List.eraseIdx_eq_take_drop_succ]; simp [rws]
  rw [e1, e2, e3]
  simpa using h6
theorem rstT_in0 {sb hb fb n : Nat} {v : Value} {first many : Int} {F W : List Int} {q : List (Value × PageS)} {w : World} {B : Nat} {X : List Asr} (h : Has w B (rstX sb hb fb v first many F q (RMemA hb n W :: X))) :
    Has w B [rstT hb n q W X, blk sb 114 #[ptrV hb, ptrV fb, v], row 116 5 v q.length (rpgsL q), RefA fb first many F] := by
  have h2 : Has w B ([blk sb 114 #[ptrV hb, ptrV fb, v], row 116 5 v q.length (rpgsL q), RefA fb first many F] ++ (rws q ++ (RMemA hb n W :: X))) := h
  exact Has.shut_all _ (h2.perm List.perm_append_comm)
theorem atN_lt {ps : List PageS} {f : Int} {j : Nat} (h : atN ps f = some j) : j < ps.length := by
  obtain ⟨p, h1, _⟩ := atN_get h
  exact (List.getElem?_eq_some_iff.1 h1).1
theorem atN_keep {ps ps' : List PageS} (h : ps.map (·.f) = ps'.map (·.f)) (f : Int) : atN ps f = atN ps' f := by
  have e : ∀ l : List PageS, atN l f = (l.map (·.f)).findIdx? (fun g => g == f) := fun l => by unfold atN; rw [List.findIdx?_map]; rfl
  rw [e, e, h]

set_option maxHeartbeats 8000000 in
set_option maxRecDepth 100000 in
theorem RDrop_calls (sb hb n : Nat) (first many : Int) (S : StS) (f : Int) (w : World) (B : Nat) (X : List Asr) (hH : Has w B (rstaL sb hb n first many S X)) :
    Calls Try.prog 70 #[.pointer (some ⟨sb, 0, none⟩), .int .i64 f] w fun e w' => e = .returned (.bool (dropB S f)) ∧ Has w' B (rstaL sb hb n first many (dropS n S f) X) ∧ Below B w w' := by
  have hP := RStA.fits hH
  obtain ⟨j0, hj0, jz0, jz1, jz2⟩ := info_parts infoPageR
  cases hj : atN S.ps f with
  | none =>
    have hd : dropB S f = false := by unfold dropB; rw [atN_not hj]; rfl
    have hs : dropS n S f = S := by unfold dropS; rw [hd]; rfl
    have C1 := hid (rat_not sb hb n first many S f hj w B X hH)
    rw [hd, hs]
    have HH := hid hH
    clear hd hs hj hP hH
    go_enter Try.func70, Try.ntmps70
    go_wp2_with fail
    refine C1.out.mono ?_
    rintro e w2 ⟨rfl, rfl⟩
    go_wp2_with fail
    go_ret
    exact ⟨rfl, HH.out, Below.refl _ _⟩
  | some j =>
    have hpg : (pageAt S.ps f).isSome = true := by
      obtain ⟨p, _, _, h⟩ := atN_get hj
      rw [h]; rfl
    have hd : dropB S f = true := hpg
    have hds : dropS n S f = ⟨(dropC n S f).W, (dropC n S f).F ++ [f], (dropC n S f).ps.filter fun p => p.f != f⟩ := by unfold dropS; rw [if_pos hd]
    have C1 := hid (rat_is sb hb n first many S f j hj w B X hH)
    have j0' : decide ((j : Int) < 0) = false := decide_eq_false (by omega)
    obtain ⟨l, hl'⟩ : ∃ l, toldL 1 f (allS S.ps) = l := ⟨_, rfl⟩
    have hll : l.length ≤ 2048 := by
      rw [← hl']
      refine Nat.le_trans (toldL_le _ _ _) ?_
      rw [allS_length hP.s8]
      have := hP.len
      omega
    have C2 := hid (RParents_calls sb hb n first many S.F S.ps f l hl' w B _ hH)
    have hat2 : atN (dropC n S f).ps f = some j := by rw [atN_keep (dropC_f n S f)]; exact hj
    have hdc : dropC n S f = clearN n (clearL n S l) f 8 := by unfold dropC; rw [hl']
    have HJ := hid hat2
    have HDC := hid hdc
    have HDS := hid hds
    have hj256 : j < 256 := by have := atN_lt hj; have := hP.len; have := hP.ff.a4; have := hP.ln; have := hP.ff.a1; omega
    rw [hd]
    clear hP hH hj hpg hd hds hl' hat2 hdc
    go_enter Try.func70, Try.ntmps70
    go_wp2_with fail
    refine C1.out.mono ?_
    rintro e w2 ⟨rfl, rfl⟩
    clear C1
    go_wp2_with fail
    refine C2.out.mono ?_
    rintro e w3 ⟨ao, cap, rfl, hH3, bN⟩
    clear C2
    have hH3 : Has w3 B (rstaL sb hb n first many (clearL n S (l.take 0)) (row 46 2 (.slice ao l.length cap) l.length (atsL l) :: X)) := toX hH3
    go_wp2_with fail
    go_loopg [7] l.length (fun g i wr => ∃ k : Nat, g + k = l.length ∧ i = .int .i64 k ∧ Has wr B (rstaL sb hb n first many (clearL n S (l.take k)) (row 46 2 (.slice ao l.length cap) l.length (atsL l) :: X)) ∧ Below B w wr)
    case atStart => exact ⟨0, by omega, rfl, hH3, bN⟩
    case round =>
      obtain ⟨k, hk, rfl, hHr, hBr⟩ := hrel
      clear hH3 bN
      have HK := hid hk
      by_cases hlt : k < l.length
      · obtain ⟨a, ha⟩ : ∃ a, l[k]? = some a := ⟨_, List.getElem?_eq_getElem hlt⟩
        obtain ⟨ao1, cap1, hv, _, _, hao⟩ := Has.row_form [_, _] _ hHr
        obtain ⟨g, hg⟩ := hao (by omega)
        have hao2 : ao = some ⟨g, 0, none⟩ := by
          injection hv with h1 h2 h3
          rw [h1, hg]
        subst hao2
        have hlt' : (k : Int) < (l.length : Int) := by omega
        have PA := Has.row_part [_, _] _ hHr (k * 2) (atL a) (fun i u hu => by
          have hi : i < 2 := by have := (List.getElem?_eq_some_iff.1 hu).1; simpa [atL] using this
          rw [atsL, flat_get atL 2 (fun _ => rfl) l k i a ha hi]
          exact hu)
        have p0 : wr.drew.cell? ⟨g, k * 2, none⟩ = some (.int .i64 a.1) := by
          have h := PA 0 _ rfl
          rw [addr_add] at h
          exact h
        have p1 : wr.drew.cell? ⟨g, k * 2 + 1, none⟩ = some (.int .i64 a.2) := by
          have h := PA 1 _ rfl
          rw [addr_add] at h
          exact h
        have hst : clearL n S (l.take (k + 1)) = clearS n (clearL n S (l.take k)) a.1 a.2 := by rw [List.take_add_one, ha]; exact clearL_snoc n S _ a
        have HST := hid hst
        have hHd := hHr.drew
        have bHd := hBr.drew
        have CL := hid (RClear_calls sb hb n first many (clearL n S (l.take k)) a.1 a.2 wr.drew B _ hHd)
        clear hv hao ha hst hk PA hHr hBr
        go_wp2_with fail
        refine wp_region_E [11] (fun U => U.cell? ⟨g, k * 2, none⟩ = some (.int .i64 a.1) ∧ U.cell? ⟨g, k * 2 + 1, none⟩ = some (.int .i64 a.2)) (by kernel_rfl) ?_ (fun hHeld => ?_)
        · exact ⟨p0, p1⟩
        refine wpE_take (i := 0) (oi := ?oi0z1) (v := ?v0z1) ?hi0z1 (by kernel_rfl) (by kernel_rfl) (by kernel_rfl) (by kernel_rfl) ?hQ0z1 ?hy0z1 (by assumption) ?rest0z1
        case hi0z1 => simp only [List.getElem?_toArray, List.getElem?_cons_succ, List.getElem?_cons_zero]; rfl
        case hQ0z1 => exact fun _ _ _ h => h
        case hy0z1 => refine Or.inl ⟨by rfl, ?_⟩; intro w hSw; (try dsimp only at hSw); go_simp; try with_reducible rfl
        try simp only [Act.put, List.setIfInBounds_toArray, List.set_cons_zero, List.set_cons_succ]
        refine wpE_take (i := 1) (oi := ?oi1z2) (v := ?v1z2) ?hi1z2 (by kernel_rfl) (by kernel_rfl) (by kernel_rfl) (by kernel_rfl) ?hQ1z2 ?hy1z2 (by assumption) ?rest1z2
        case hi1z2 => simp only [List.getElem?_toArray, List.getElem?_cons_succ, List.getElem?_cons_zero]; rfl
        case hQ1z2 => exact fun _ _ _ h => h
        case hy1z2 => refine Or.inl ⟨by rfl, ?_⟩; intro w hSw; (try dsimp only at hSw); go_simp; try with_reducible rfl
        try simp only [Act.put, List.setIfInBounds_toArray, List.set_cons_zero, List.set_cons_succ]
        refine wpE_take (i := 2) (oi := ?oi2z3) (v := ?v2z3) ?hi2z3 (by kernel_rfl) (by kernel_rfl) (by kernel_rfl) (by kernel_rfl) ?hQ2z3 ?hy2z3 (by assumption) ?rest2z3
        case hi2z3 => simp only [List.getElem?_toArray, List.getElem?_cons_succ, List.getElem?_cons_zero]; rfl
        case hQ2z3 => exact fun _ _ _ h => h
        case hy2z3 => refine Or.inl ⟨by rfl, ?_⟩; intro w hSw; (try dsimp only at hSw); go_simp; try with_reducible rfl
        try simp only [Act.put, List.setIfInBounds_toArray, List.set_cons_zero, List.set_cons_succ]
        refine wpE_take (i := 3) (oi := ?oi3z4) (v := ?v3z4) ?hi3z4 (by kernel_rfl) (by kernel_rfl) (by kernel_rfl) (by kernel_rfl) ?hQ3z4 ?hy3z4 (by assumption) ?rest3z4
        case hi3z4 => simp only [List.getElem?_toArray, List.getElem?_cons_succ, List.getElem?_cons_zero]; rfl
        case hQ3z4 => exact fun _ _ _ h => h
        case hy3z4 => refine Or.inl ⟨by rfl, ?_⟩; intro w hSw; (try dsimp only at hSw); go_simp; try with_reducible rfl
        try simp only [Act.put, List.setIfInBounds_toArray, List.set_cons_zero, List.set_cons_succ]
        refine wpE_take (i := 4) (oi := ?oi4z5) (v := ?v4z5) ?hi4z5 (by kernel_rfl) (by kernel_rfl) (by kernel_rfl) (by kernel_rfl) ?hQ4z5 ?hy4z5 (by assumption) ?rest4z5
        case hi4z5 => simp only [List.getElem?_toArray, List.getElem?_cons_succ, List.getElem?_cons_zero]; rfl
        case hQ4z5 => exact fun _ _ _ h => h
        case hy4z5 => refine Or.inl ⟨by rfl, ?_⟩; intro w hSw; (try dsimp only at hSw); go_simp; try with_reducible rfl
        try simp only [Act.put, List.setIfInBounds_toArray, List.set_cons_zero, List.set_cons_succ]
        refine wpE_take (i := 5) (oi := ?oi5z6) (v := ?v5z6) ?hi5z6 (by kernel_rfl) (by kernel_rfl) (by kernel_rfl) (by kernel_rfl) ?hQ5z6 ?hy5z6 (by assumption) ?rest5z6
        case hi5z6 => simp only [List.getElem?_toArray, List.getElem?_cons_succ, List.getElem?_cons_zero]; rfl
        case hQ5z6 => exact fun _ _ _ h => h
        case hy5z6 => refine Or.inl ⟨by rfl, ?_⟩; intro w hSw; (try dsimp only at hSw); go_simp; try with_reducible rfl
        try simp only [Act.put, List.setIfInBounds_toArray, List.set_cons_zero, List.set_cons_succ]
        refine wpE_take (i := 6) (oi := ?oi6z7) (v := ?v6z7) ?hi6z7 (by kernel_rfl) (by kernel_rfl) (by kernel_rfl) (by kernel_rfl) ?hQ6z7 ?hy6z7 (by assumption) ?rest6z7
        case hi6z7 => simp only [List.getElem?_toArray, List.getElem?_cons_succ, List.getElem?_cons_zero]; rfl
        case hQ6z7 => exact fun _ _ _ h => h
        case hy6z7 => refine Or.inl ⟨by rfl, ?_⟩; intro w hSw; (try dsimp only at hSw); go_simp; try with_reducible rfl
        try simp only [Act.put, List.setIfInBounds_toArray, List.set_cons_zero, List.set_cons_succ]
        refine wpE_take (i := 7) (oi := ?oi7z8) (v := ?v7z8) ?hi7z8 (by kernel_rfl) (by kernel_rfl) (by kernel_rfl) (by kernel_rfl) ?hQ7z8 ?hy7z8 (by assumption) ?rest7z8
        case hi7z8 => simp only [List.getElem?_toArray, List.getElem?_cons_succ, List.getElem?_cons_zero]; rfl
        case hQ7z8 => exact fun _ _ _ h => h
        case hy7z8 => refine Or.inl ⟨by rfl, ?_⟩; intro w hSw; (try dsimp only at hSw); go_simp; try with_reducible rfl
        try simp only [Act.put, List.setIfInBounds_toArray, List.set_cons_zero, List.set_cons_succ]
        refine wpE_take (i := 8) (oi := ?oi8z9) (v := ?v8z9) ?hi8z9 (by kernel_rfl) (by kernel_rfl) (by kernel_rfl) (by kernel_rfl) ?hQ8z9 ?hy8z9 (by assumption) ?rest8z9
        case hi8z9 => simp only [List.getElem?_toArray, List.getElem?_cons_succ, List.getElem?_cons_zero]; rfl
        case hQ8z9 => exact fun _ _ _ h => h
        case hy8z9 => refine Or.inl ⟨by rfl, ?_⟩; intro w hSw; (try dsimp only at hSw); go_simp; try with_reducible rfl
        try simp only [Act.put, List.setIfInBounds_toArray, List.set_cons_zero, List.set_cons_succ]
        refine wpE_take (i := 9) (oi := ?oi9z10) (v := ?v9z10) ?hi9z10 (by kernel_rfl) (by kernel_rfl) (by kernel_rfl) (by kernel_rfl) ?hQ9z10 ?hy9z10 (by assumption) ?rest9z10
        case hi9z10 => simp only [List.getElem?_toArray, List.getElem?_cons_succ, List.getElem?_cons_zero]; rfl
        case hQ9z10 => exact fun _ _ _ h => h
        case hy9z10 => refine Or.inl ⟨by rfl, ?_⟩; intro w hSw; (try dsimp only at hSw); go_simp; try with_reducible rfl
        try simp only [Act.put, List.setIfInBounds_toArray, List.set_cons_zero, List.set_cons_succ]
        refine wpE_take (i := 10) (oi := ?oi10z11) (v := ?v10z11) ?hi10z11 (by kernel_rfl) (by kernel_rfl) (by kernel_rfl) (by kernel_rfl) ?hQ10z11 ?hy10z11 (by assumption) ?rest10z11
        case hi10z11 => simp only [List.getElem?_toArray, List.getElem?_cons_succ, List.getElem?_cons_zero]; rfl
        case hQ10z11 => exact fun _ _ _ h => h
        case hy10z11 => refine Or.inl ⟨by rfl, ?_⟩; intro w hSw; (try dsimp only at hSw); go_simp; try with_reducible rfl
        try simp only [Act.put, List.setIfInBounds_toArray, List.set_cons_zero, List.set_cons_succ]
        refine wpE_ready (rs := [11]) (by kernel_rfl) (by simp) ?_
        refine AllReadyE.last rfl rfl (fun K hK => ?_) AllReadyE.nil
        go_simp
        refine CL.out.mono ?_
        rintro e w5 ⟨rfl, hH5, hB5⟩
        dsimp only
        refine hK.out _ _ ?_
        clear hK K
        try simp only [Act.put, List.setIfInBounds_toArray, List.set_cons_zero, List.set_cons_succ]
        clear CL hHd p0 p1
        refine wpE_done (by kernel_rfl) ?_ _
        have hH5 : Has w5 B (rstaL sb hb n first many (clearS n (clearL n S (l.take k)) a.1 a.2) (row 46 2 (.slice (some ⟨g, 0, none⟩) l.length cap) l.length (atsL l) :: X)) := hH5
        go_wp2_with fail
        go_roundg (gk - 1)
        case measure => have := HK.out; omega
        case rel => exact ⟨k + 1, by have := HK.out; omega, by go_num, by rw [HST.out]; exact hH5, bHd.trans hB5⟩
      · obtain rfl : k = l.length := by omega
        rw [List.take_length] at hHr
        have hHr : Has wr B (rstaL sb hb n first many (clearN n (clearL n S l) f 0) X) := Has.drop (fromX hHr)
        clear hk HK hlt
        go_wp2_with fail
        go_loopg [8] 8 (fun g i wr => ∃ k : Nat, g + k = 8 ∧ i = .int .i64 k ∧ Has wr B (rstaL sb hb n first many (clearN n (clearL n S l) f k) X) ∧ Below B w wr)
        case atStart => exact ⟨0, by omega, rfl, hHr, hBr⟩
        case round =>
          clear hHr hBr
          obtain ⟨k, hk, rfl, hHr, hBr⟩ := hrel
          have HK := hid hk
          by_cases hlt : k < 8
          · have hlt' : (k : Int) < 8 := by omega
            clear hk
            go_wp2_with fail
            refine (RClear_calls sb hb n first many (clearN n (clearL n S l) f k) f k wr B _ hHr).mono ?_
            rintro e w5 ⟨rfl, hH5, hB5⟩
            go_wp2_with fail
            go_roundg (gk - 1)
            case measure => have := HK.out; omega
            case rel => exact ⟨k + 1, by have := HK.out; omega, by go_num, by rw [clearN_succ]; exact hH5, hBr.trans hB5⟩
          · obtain rfl : k = 8 := by omega
            clear hk HK hlt
            rw [← HDC.out] at hHr
            clear HDC
            generalize dropC n S f = S2 at *
            obtain ⟨hP2, fb, v, q, hq, hl, hO⟩ := RStA.openX hHr
            have hjq := HJ.out
            rw [← hq] at hjq
            obtain ⟨x, hx, hxf, _⟩ := at_page hjq
            have hjl : j < q.length := (List.getElem?_eq_some_iff.1 hx).1
            have RW1 := hid (rpgs_ones hO)
            obtain ⟨ao2, cap2, hvv, hcap, _, hg2⟩ := Has.row_form [_] _ hO
            obtain ⟨gg, rfl⟩ := hg2 (by omega)
            subst hvv
            obtain ⟨ad', c', hcut2, hcc⟩ := cut_pgs gg cap2 (j + 1) q (by omega) hcap
            have hcut2' : ∀ W, Sem.run Try.prog (Instr.slice 112 (.slice (some ⟨gg, 0, none⟩) q.length cap2) (some (.int .i64 ((j : Int) + 1))) none none) W = .ok (.slice (some ad') (q.drop (j + 1)).length c') W := hcut2
            have hcut1 := cut_toS Try.underlying112 elPg pgZz gg q.length cap2 j (by omega) hcap
            obtain ⟨dl, hdl⟩ : ∃ d, (q.drop (j + 1)).length = d := ⟨_, rfl⟩
            have hdl2 : dl ≤ 256 := by rw [← hdl, List.length_drop]; omega
            rw [hdl] at hcut2'
            have HDL := hid hdl
            have HX := hid hx
            have HXF := hid hxf
            have HP2 := hid hP2
            have HQ := hid hq
            have HCC := hid hcc
            have hwj : IntKind.i64.wrap ((j : Int) + 1) = (j : Int) + 1 := IntWalk.i64_in _ (by omega)
            clear hHr hP2 hq hjq hx hxf hg2 hcut2 hcc hcap hdl
            go_upto_region 13 with fail
            go_cut [] from 43 to 61 (fun wx => ∃ (v' : Value), Has wx B (rstX sb hb fb v' first many S2.F (q.eraseIdx j) (RMemA hb n S2.W :: X)) ∧ Below B w wx)
            case first =>
              have hD := (rstT_in0 hO).drew
              have bD := hBr.drew
              have c2 := hD.cell [_] _ 2 (v := .slice (some ⟨gg, 0, none⟩) q.length cap2) rfl
              clear hO hBr
              go_wp2_with fail
              refine wp_region_E [19] (fun U => U.cell? ⟨sb, 2, none⟩ = some (.slice (some ⟨gg, 0, none⟩) q.length cap2)) (by kernel_rfl) ?_ (fun hHeld => ?_)
              · exact c2
              clear c2
              generalize wr.drew = wd at *
              refine wpE_take (i := 0) (oi := ?oi0z12) (v := ?v0z12) ?hi0z12 (by kernel_rfl) (by kernel_rfl) (by kernel_rfl) (by kernel_rfl) ?hQ0z12 ?hy0z12 (by assumption) ?rest0z12
              case hi0z12 => simp only [List.getElem?_toArray, List.getElem?_cons_succ, List.getElem?_cons_zero]; rfl
              case hQ0z12 => exact fun _ _ _ h => h
              case hy0z12 => refine Or.inl ⟨by rfl, ?_⟩; intro w hSw; (try dsimp only at hSw); go_simp; try with_reducible rfl
              try simp only [Act.put, List.setIfInBounds_toArray, List.set_cons_zero, List.set_cons_succ]
              refine wpE_take (i := 2) (oi := ?oi2z13) (v := ?v2z13) ?hi2z13 (by kernel_rfl) (by kernel_rfl) (by kernel_rfl) (by kernel_rfl) ?hQ2z13 ?hy2z13 (by assumption) ?rest2z13
              case hi2z13 => simp only [List.getElem?_toArray, List.getElem?_cons_succ, List.getElem?_cons_zero]; rfl
              case hQ2z13 => exact fun _ _ _ h => h
              case hy2z13 => refine Or.inl ⟨by rfl, ?_⟩; intro w hSw; (try dsimp only at hSw); go_simp; try with_reducible rfl
              try simp only [Act.put, List.setIfInBounds_toArray, List.set_cons_zero, List.set_cons_succ]
              refine wpE_take (i := 3) (oi := ?oi3z14) (v := ?v3z14) ?hi3z14 (by kernel_rfl) (by kernel_rfl) (by kernel_rfl) (by kernel_rfl) ?hQ3z14 ?hy3z14 (by assumption) ?rest3z14
              case hi3z14 => simp only [List.getElem?_toArray, List.getElem?_cons_succ, List.getElem?_cons_zero]; rfl
              case hQ3z14 => exact fun _ _ _ h => h
              case hy3z14 => refine Or.inl ⟨by rfl, ?_⟩; intro w hSw; (try dsimp only at hSw); go_simp; try with_reducible rfl
              try simp only [Act.put, List.setIfInBounds_toArray, List.set_cons_zero, List.set_cons_succ]
              refine wpE_take (i := 4) (oi := ?oi4z15) (v := ?v4z15) ?hi4z15 (by kernel_rfl) (by kernel_rfl) (by kernel_rfl) (by kernel_rfl) ?hQ4z15 ?hy4z15 (by assumption) ?rest4z15
              case hi4z15 => simp only [List.getElem?_toArray, List.getElem?_cons_succ, List.getElem?_cons_zero]; rfl
              case hQ4z15 => exact fun _ _ _ h => h
              case hy4z15 => refine Or.inl ⟨by rfl, ?_⟩; intro w hSw; (try dsimp only at hSw); go_simp; try with_reducible rfl
              try simp only [Act.put, List.setIfInBounds_toArray, List.set_cons_zero, List.set_cons_succ]
              refine wpE_take (i := 5) (oi := ?oi5z16) (v := ?v5z16) ?hi5z16 (by kernel_rfl) (by kernel_rfl) (by kernel_rfl) (by kernel_rfl) ?hQ5z16 ?hy5z16 (by assumption) ?rest5z16
              case hi5z16 => simp only [List.getElem?_toArray, List.getElem?_cons_succ, List.getElem?_cons_zero]; rfl
              case hQ5z16 => exact fun _ _ _ h => h
              case hy5z16 => refine Or.inl ⟨by rfl, ?_⟩; intro w hSw; (try dsimp only at hSw); go_simp; try with_reducible rfl
              try simp only [Act.put, List.setIfInBounds_toArray, List.set_cons_zero, List.set_cons_succ]
              refine wpE_take (i := 6) (oi := ?oi6z17) (v := ?v6z17) ?hi6z17 (by kernel_rfl) (by kernel_rfl) (by kernel_rfl) (by kernel_rfl) ?hQ6z17 ?hy6z17 (by assumption) ?rest6z17
              case hi6z17 => simp only [List.getElem?_toArray, List.getElem?_cons_succ, List.getElem?_cons_zero]; rfl
              case hQ6z17 => exact fun _ _ _ h => h
              case hy6z17 => refine Or.inl ⟨by rfl, ?_⟩; intro w hSw; (try dsimp only at hSw); go_simp; try with_reducible rfl
              try simp only [Act.put, List.setIfInBounds_toArray, List.set_cons_zero, List.set_cons_succ]
              refine wpE_take (i := 7) (oi := ?oi7z18) (v := ?v7z18) ?hi7z18 (by kernel_rfl) (by kernel_rfl) (by kernel_rfl) (by kernel_rfl) ?hQ7z18 ?hy7z18 (by assumption) ?rest7z18
              case hi7z18 => simp only [List.getElem?_toArray, List.getElem?_cons_succ, List.getElem?_cons_zero]; rfl
              case hQ7z18 => exact fun _ _ _ h => h
              case hy7z18 => refine Or.inl ⟨by rfl, ?_⟩; intro w hSw; (try dsimp only at hSw); go_simp; try with_reducible rfl
              try simp only [Act.put, List.setIfInBounds_toArray, List.set_cons_zero, List.set_cons_succ]
              refine wpE_take (i := 9) (oi := ?oi9z19) (v := ?v9z19) ?hi9z19 (by kernel_rfl) (by kernel_rfl) (by kernel_rfl) (by kernel_rfl) ?hQ9z19 ?hy9z19 (by assumption) ?rest9z19
              case hi9z19 => simp only [List.getElem?_toArray, List.getElem?_cons_succ, List.getElem?_cons_zero]; rfl
              case hQ9z19 => exact fun _ _ _ h => h
              case hy9z19 => refine Or.inl ⟨by rfl, ?_⟩; intro w hSw; (try dsimp only at hSw); go_simp; try with_reducible rfl
              try simp only [Act.put, List.setIfInBounds_toArray, List.set_cons_zero, List.set_cons_succ]
              refine wpE_take (i := 10) (oi := ?oi10z20) (v := ?v10z20) ?hi10z20 (by kernel_rfl) (by kernel_rfl) (by kernel_rfl) (by kernel_rfl) ?hQ10z20 ?hy10z20 (by assumption) ?rest10z20
              case hi10z20 => simp only [List.getElem?_toArray, List.getElem?_cons_succ, List.getElem?_cons_zero]; rfl
              case hQ10z20 => exact fun _ _ _ h => h
              case hy10z20 => refine Or.inl ⟨by rfl, ?_⟩; intro w hSw; (try dsimp only at hSw); go_simp; try with_reducible rfl
              try simp only [Act.put, List.setIfInBounds_toArray, List.set_cons_zero, List.set_cons_succ]
              refine wpE_take (i := 11) (oi := ?oi11z21) (v := ?v11z21) ?hi11z21 (by kernel_rfl) (by kernel_rfl) (by kernel_rfl) (by kernel_rfl) ?hQ11z21 ?hy11z21 (by assumption) ?rest11z21
              case hi11z21 => simp only [List.getElem?_toArray, List.getElem?_cons_succ, List.getElem?_cons_zero]; rfl
              case hQ11z21 => exact fun _ _ _ h => h
              case hy11z21 => refine Or.inl ⟨by rfl, ?_⟩; intro w hSw; (try dsimp only at hSw); go_simp; try with_reducible rfl
              try simp only [Act.put, List.setIfInBounds_toArray, List.set_cons_zero, List.set_cons_succ]
              refine wpE_take (i := 12) (oi := ?oi12z22) (v := ?v12z22) ?hi12z22 (by kernel_rfl) (by kernel_rfl) (by kernel_rfl) (by kernel_rfl) ?hQ12z22 ?hy12z22 (by assumption) ?rest12z22
              case hi12z22 => simp only [List.getElem?_toArray, List.getElem?_cons_succ, List.getElem?_cons_zero]; rfl
              case hQ12z22 => exact fun _ _ _ h => h
              case hy12z22 => refine Or.inl ⟨by rfl, ?_⟩; intro w hSw; (try dsimp only at hSw); go_simp; try with_reducible rfl
              try simp only [Act.put, List.setIfInBounds_toArray, List.set_cons_zero, List.set_cons_succ]
              refine wpE_take (i := 13) (oi := ?oi13z23) (v := ?v13z23) ?hi13z23 (by kernel_rfl) (by kernel_rfl) (by kernel_rfl) (by kernel_rfl) ?hQ13z23 ?hy13z23 (by assumption) ?rest13z23
              case hi13z23 => simp only [List.getElem?_toArray, List.getElem?_cons_succ, List.getElem?_cons_zero]; rfl
              case hQ13z23 => exact fun _ _ _ h => h
              case hy13z23 => refine Or.inl ⟨by rfl, ?_⟩; intro w hSw; (try dsimp only at hSw); go_simp; try with_reducible rfl
              try simp only [Act.put, List.setIfInBounds_toArray, List.set_cons_zero, List.set_cons_succ]
              refine wpE_take (i := 14) (oi := ?oi14z24) (v := ?v14z24) ?hi14z24 (by kernel_rfl) (by kernel_rfl) (by kernel_rfl) (by kernel_rfl) ?hQ14z24 ?hy14z24 (by assumption) ?rest14z24
              case hi14z24 => simp only [List.getElem?_toArray, List.getElem?_cons_succ, List.getElem?_cons_zero]; rfl
              case hQ14z24 => exact fun _ _ _ h => h
              case hy14z24 => refine Or.inl ⟨by rfl, ?_⟩; intro w hSw; (try dsimp only at hSw); go_simp; try with_reducible rfl
              try simp only [Act.put, List.setIfInBounds_toArray, List.set_cons_zero, List.set_cons_succ]
              refine wpE_take (i := 15) (oi := ?oi15z25) (v := ?v15z25) ?hi15z25 (by kernel_rfl) (by kernel_rfl) (by kernel_rfl) (by kernel_rfl) ?hQ15z25 ?hy15z25 (by assumption) ?rest15z25
              case hi15z25 => simp only [List.getElem?_toArray, List.getElem?_cons_succ, List.getElem?_cons_zero]; rfl
              case hQ15z25 => exact fun _ _ _ h => h
              case hy15z25 => refine Or.inl ⟨by rfl, ?_⟩; intro w hSw; (try dsimp only at hSw); go_simp; try with_reducible rfl
              try simp only [Act.put, List.setIfInBounds_toArray, List.set_cons_zero, List.set_cons_succ]
              refine wpE_ready (rs := [1]) (by kernel_rfl) (by simp) ?_
              refine AllReadyE.cons rfl rfl (fun K hK => ?_) AllReadyE.nil
              obtain ⟨bE, hbE⟩ : ∃ b, wd.heap.size = b := ⟨_, rfl⟩
              have hHz26 := hD.newrow bE 116 5 hbE
              have bHz26 := below_new bD hD (.cells #[] 116)
              have sz26 := hid (hHz26.cell [_, _] _ 2 (v := .slice (some ⟨gg, 0, none⟩) q.length cap2) rfl)
              go_simp
              refine hK.out _ _ ?_ (fun hHeld => ?_)
              · exact sz26.out
              clear hK K
              try simp only [Act.put, List.setIfInBounds_toArray, List.set_cons_zero, List.set_cons_succ]
              generalize (wd.alloc (.cells #[] 116)) = wz26 at *
              clear hD bD hbE sz26
              refine wpE_ready (rs := [8]) (by kernel_rfl) (by simp) ?_
              refine AllReadyE.cons rfl rfl (fun K hK => ?_) AllReadyE.nil
              refine step_append_row [] _ hHz26 rfl (.tmp 44) (.tmp 50) 112 rfl j0 (.agg #[.int .i64 0, .int .i64 0, .int .i64 0, .int .i64 0, .slice none 0 0]) 56 Try.underlying112 hj0 jz0 jz1 jz2 rfl (by decide) rfl ⟨gg, 0, none⟩ j cap2 (rpgsL (q.take j)) rfl (by rw [rpgsL_length, List.length_take]; congr 1; omega) (fun i u hu => by
                  rw [addr_add, Nat.zero_add]
                  rw [← rpgsL_take] at hu
                  have hjl := (List.getElem?_eq_some_iff.1 hu).1
                  rw [List.length_take] at hjl
                  rw [List.getElem?_take_of_lt (by omega)] at hu
                  exact hHz26.row_cell [_, _, _] _ i hu) (fun u hu => RW1.out u (by rw [← rpgsL_take] at hu; exact List.take_subset _ _ hu)) (by unfold maxLen; omega) (by omega) ?_
              intro gE capE wz27 hHz27 hBz27
              simp only [Nat.zero_add, List.nil_append] at hHz27 ⊢
              have bHz27 := bHz26.trans hBz27
              have sz27 := hid (hHz27.cell [_, _] _ 2 (v := .slice (some ⟨gg, 0, none⟩) q.length cap2) rfl)
              refine hK.out _ _ ?_ (fun hHeld => ?_)
              · exact sz27.out
              clear hK K
              try simp only [Act.put, List.setIfInBounds_toArray, List.set_cons_zero, List.set_cons_succ]
              clear hHz26 bHz26 hBz27 sz27
              refine wpE_ready (rs := [16]) (by kernel_rfl) (by simp) ?_
              refine AllReadyE.cons rfl rfl (fun K hK => ?_) AllReadyE.nil
              refine step_append_row [] _ hHz27 rfl (.tmp 51) (.tmp 58) 112 rfl j0 (.agg #[.int .i64 0, .int .i64 0, .int .i64 0, .int .i64 0, .slice none 0 0]) 56 Try.underlying112 hj0 jz0 jz1 jz2 rfl (by decide) rfl ad' dl c' (rpgsL (q.drop (j + 1))) rfl (by rw [rpgsL_length, HDL.out]) (HCC.out _ (fun i u hu => hHz27.row_cell [_, _, _] _ i hu)) (fun u hu => RW1.out u (by rw [← rpgsL_drop] at hu; exact List.drop_subset _ _ hu)) (by unfold maxLen; omega) (by omega) ?_
              intro gF capF wz28 hHz28 hBz28
              have bHz28 := bHz27.trans hBz28
              have sz28 := hid (hHz28.cell [_, _] _ 2 (v := .slice (some ⟨gg, 0, none⟩) q.length cap2) rfl)
              refine hK.out _ _ ?_ (fun hHeld => ?_)
              · exact sz28.out
              clear hK K
              try simp only [Act.put, List.setIfInBounds_toArray, List.set_cons_zero, List.set_cons_succ]
              clear hHz27 bHz27 hBz28 sz28
              refine wpE_take (i := 17) (oi := ?oi17z29) (v := ?v17z29) ?hi17z29 (by kernel_rfl) (by kernel_rfl) (by kernel_rfl) (by kernel_rfl) ?hQ17z29 ?hy17z29 (by assumption) ?rest17z29
              case hi17z29 => simp only [List.getElem?_toArray, List.getElem?_cons_succ, List.getElem?_cons_zero]; rfl
              case hQ17z29 => exact fun _ _ _ h => h
              case hy17z29 => refine Or.inl ⟨by rfl, ?_⟩; intro w hSw; (try dsimp only at hSw); go_simp; try with_reducible rfl
              try simp only [Act.put, List.setIfInBounds_toArray, List.set_cons_zero, List.set_cons_succ]
              refine wpE_take (i := 18) (oi := ?oi18z30) (v := ?v18z30) ?hi18z30 (by kernel_rfl) (by kernel_rfl) (by kernel_rfl) (by kernel_rfl) ?hQ18z30 ?hy18z30 (by assumption) ?rest18z30
              case hi18z30 => simp only [List.getElem?_toArray, List.getElem?_cons_succ, List.getElem?_cons_zero]; rfl
              case hQ18z30 => exact fun _ _ _ h => h
              case hy18z30 => refine Or.inl ⟨by rfl, ?_⟩; intro w hSw; (try dsimp only at hSw); go_simp; try with_reducible rfl
              try simp only [Act.put, List.setIfInBounds_toArray, List.set_cons_zero, List.set_cons_succ]
              refine wpE_ready (rs := [19]) (by kernel_rfl) (by simp) ?_
              refine AllReadyE.last rfl rfl (fun K hK => ?_) AllReadyE.nil
              have k4 := Has.frozen [_, _] _ hHz28 2
              have k5 := hHz28.cell [_, _] _ 2 (v := .slice (some ⟨gg, 0, none⟩) q.length cap2) rfl
              have hHz31 := Has.set [_, _] _ hHz28 2 (.slice (some ⟨gF, 0, none⟩) (j + dl) capF)
              have bHz31 := below_set bHz28 [_, _] _ hHz28 2 (.slice (some ⟨gF, 0, none⟩) (j + dl) capF)
              go_simp
              refine hK.out _ _ ?_
              clear hK K
              try simp only [Act.put, List.setIfInBounds_toArray, List.set_cons_zero, List.set_cons_succ]
              generalize (wz28.setCell ⟨sb, 2, none⟩ (.slice (some ⟨gF, 0, none⟩) (j + dl) capF)) = wz31 at *
              clear k4 k5 hHz28 bHz28
              refine wpE_done (by kernel_rfl) ?_ _
              have hM0 := Has.pick hHz31 [1, 2, 0, 4]
              go_wp2_with fail
              go_meet
              case rel => exact ⟨_, rstT_less HX.out (by rw [HDL.out]; exact hM0), bHz31⟩
            case rest =>
              obtain ⟨v', hM, bM⟩ := hcut
              clear hO hBr hcut1 hcut2' hwj
              have hMD := hM
              have c1 := hM.cell [] _ 1 (v := ptrV fb) rfl
              unfold ptrV at c1
              have CG := hid ((RefGive fb first many f S2.F).at [_, _] _ hM)
              have hgv := given_yes HP2.out (List.mem_of_getElem? (show S2.ps[j]? = some x.2 from by rw [← HQ.out, List.getElem?_map, HX.out]; rfl))
              rw [HXF.out] at hgv
              rw [hgv.1, hgv.2] at CG
              clear hM hMD hgv
              go_wp2_with fail
              refine CG.out.mono ?_
              rintro e w8 ⟨_, rfl, hH8, hB8⟩
              have hH8 : Has w8 B (rstX sb hb fb v' first many (S2.F ++ [f]) (q.eraseIdx j) (RMemA hb n S2.W :: X)) := hH8
              clear CG c1
              go_wp2_with fail
              go_ret
              refine ⟨rfl, ?_, bM.trans hB8⟩
              rw [HDS.out]
              have hk2 : S2.ps[j]? = some x.2 := by rw [← HQ.out, List.getElem?_map, HX.out]; rfl
              have hp := HP2.out.drop hk2
              rw [HXF.out] at hp
              have e1 : (q.eraseIdx j).map Prod.snd = S2.ps.eraseIdx j := by rw [← HQ.out, List.eraseIdx_eq_take_drop_succ, List.eraseIdx_eq_take_drop_succ]; simp [List.map_take, List.map_drop]
              have e2 : S2.ps.eraseIdx j = S2.ps.filter fun p => p.f != f := by
                rw [erase_filter HP2.out.nd hk2, HXF.out]
              rw [← e1] at hp
              have h9 := RStA.shut fb v' (q.eraseIdx j) hp hH8
              rw [e1, e2] at h9
              exact h9

end Go.Proofs.Yteeapkndappnoaa
