/-
  Contracts of package free (layer 2): a list of free frames, as the list of those that are free, the one that is taken next last.
-/
import Derived.Test.YteeapkndappnoaaRows
import Derived.Test.YteeapkndappnoaaOwn
namespace Go.Proofs.Yteeapkndappnoaa
open Go.RowKit
set_option linter.unusedVariables false
set_option linter.unusedSimpArgs false

/-- The frames that never were taken, the least last. -/
def freshL (first many fresh : Int) : List Int := (List.range (many - fresh).toNat).map (fun i : Nat => first + many - 1 - (i : Int))

structure FreeS where
  m : Nat
  v : Value
  fresh : Int
  back : List Int
  g : Int → Option Int
  n : Nat

structure FreeInv (first many : Int) (s : FreeS) (F : List Int) : Prop where
  a1 : 0 ≤ first
  a2 : 0 ≤ many
  a3 : first ≤ 256
  a4 : many ≤ 256 - first
  a5 : 0 ≤ s.fresh
  a6 : s.fresh ≤ many
  eq : F = freshL first many s.fresh ++ s.back
  nd : s.back.Nodup
  rg : ∀ x ∈ s.back, first ≤ x ∧ x < first + s.fresh
  tk : ∀ x, (s.g x).isSome = decide (first ≤ x ∧ x < first + s.fresh ∧ x ∉ s.back)
  ln : (s.n : Int) = s.fresh - s.back.length

/-- The program's list, at block b. -/
def FreeA (b : Nat) (first many : Int) (F : List Int) : Asr :=
  Asr.ex fun s : FreeS => Asr.and (FreeInv first many s F) <| Asr.all
    [blk b 120 #[.int .i64 first, .int .i64 many, .int .i64 s.fresh, s.v, .map (some s.m)], imap Try.prog 3 s.m s.g s.n, row 3 1 s.v s.back.length (s.back.map (Value.int .i64))]

theorem zeroInt (w : World) : (zeroValue 3).run Try.prog w = .ok (.int .i64 0) w := by kernel_rfl

theorem FreeNew_ok (first many : Int) (h1 : 0 ≤ first) (h2 : 0 ≤ many) (h3 : first ≤ 256) (h4 : many ≤ 256 - first) :
    Does Try.prog 46 #[.int .i64 first, .int .i64 many] [] (fun b : Nat => .pointer (some ⟨b, 0, none⟩)) (fun b => [FreeA b first many (freshL first many 0)]) := by
  intro w B X hH
  have hH : Has w B X := hH
  have hmm := @run_makeMap Try.prog
  have e1 : decide (first < 0) = false := by simpa using h1
  have e2 : decide (many < 0) = false := by simpa using h2
  have e3 : decide (256 < first) = false := by simpa using h3
  have e4 : decide (256 - first < many) = false := by simpa using h4
  have hM := hH.newmap w.heap.size Try.prog 3 rfl
  have hN := hM.newblk (w.heap.size + 1) 120 #[.int .i64 first, .int .i64 many, .int .i64 0, .slice none 0 0, .map (some w.heap.size)] (by simp)
  have hB := below_new (below_new (Below.refl B w) hH (.map #[] 0)) hM (.cells #[.int .i64 first, .int .i64 many, .int .i64 0, .slice none 0 0, .map (some w.heap.size)] 120)
  go_enter Try.func46, Try.ntmps46
  go_wp2
  go_ret
  refine ⟨w.heap.size + 1, rfl, ?_, hB⟩
  refine Has.shut_ex ⟨w.heap.size, .slice none 0 0, 0, [], fun _ => none, 0⟩ (Has.shut_and ?_ (Has.shut_all _ ?_))
  · exact ⟨h1, h2, h3, h4, by simp, by simpa using h2, by simp, by simp, by simp, fun x => by simp, by simp⟩
  · exact (hN.nilrow 3 1).back [_, _] X

/-- Other numbers: nothing is made. -/
theorem FreeNew_no (first many : Int) (h : first < 0 ∨ many < 0 ∨ 256 < first ∨ 256 - first < many) (w : World) :
    Calls Try.prog 46 #[.int .i64 first, .int .i64 many] w fun e w' => e = .returned (.pointer none) ∧ w = w' := by
  by_cases h1 : first < 0
  · have e1 : decide (first < 0) = true := by simpa using h1
    clear h
    go_enter Try.func46, Try.ntmps46
    go_wp2
    go_ret
    exact ⟨rfl, rfl⟩
  · have e1 : decide (first < 0) = false := by simpa using h1
    by_cases h2 : many < 0
    · have e2 : decide (many < 0) = true := by simpa using h2
      clear h
      go_enter Try.func46, Try.ntmps46
      go_wp2
      go_ret
      exact ⟨rfl, rfl⟩
    · have e2 : decide (many < 0) = false := by simpa using h2
      by_cases h3 : 256 < first
      · have e3 : decide (256 < first) = true := by simpa using h3
        clear h
        go_enter Try.func46, Try.ntmps46
        go_wp2
        go_ret
        exact ⟨rfl, rfl⟩
      · have e3 : decide (256 < first) = false := by simpa using h3
        have h4 : 256 - first < many := by omega
        have e4 : decide (256 - first < many) = true := by simpa using h4
        have h5 : 0 ≤ first := by omega
        have h6 : first ≤ 256 := by omega
        clear h
        go_enter Try.func46, Try.ntmps46
        go_wp2
        go_ret
        exact ⟨rfl, rfl⟩

/-- A list opened: what it is made of. -/
theorem FreeA.open {b : Nat} {first many : Int} {F : List Int} {w : World} {B : Nat} {X : List Asr} (hH : Has w B (FreeA b first many F :: X)) : ∃ s : FreeS, FreeInv first many s F ∧
    Has w B (blk b 120 #[.int .i64 first, .int .i64 many, .int .i64 s.fresh, s.v, .map (some s.m)] :: imap Try.prog 3 s.m s.g s.n :: row 3 1 s.v s.back.length (s.back.map (Value.int .i64)) :: X) := by
  obtain ⟨s, hH⟩ := hH.open_ex
  obtain ⟨hI, hH⟩ := hH.open_and
  exact ⟨s, hI, hH.open_all⟩

theorem FreeA.shut {b : Nat} {first many : Int} {F : List Int} {w : World} {B : Nat} {X : List Asr} (m : Nat) (v : Value) (fresh : Int) (back : List Int) (g : Int → Option Int) (n : Nat)
    (hI : FreeInv first many ⟨m, v, fresh, back, g, n⟩ F)
    (hH : Has w B (blk b 120 #[.int .i64 first, .int .i64 many, .int .i64 fresh, v, .map (some m)] :: imap Try.prog 3 m g n :: row 3 1 v back.length (back.map (Value.int .i64)) :: X)) : Has w B (FreeA b first many F :: X) :=
  Has.shut_ex ⟨m, v, fresh, back, g, n⟩ (Has.shut_and hI (Has.shut_all [_, _, _] hH))

/-- The three cells and marks of a list's own block. -/
theorem free_cells {b m : Nat} {first many fresh : Int} {v : Value} {w : World} {B : Nat} {X : List Asr} (hH : Has w B (blk b 120 #[.int .i64 first, .int .i64 many, .int .i64 fresh, v, .map (some m)] :: X)) :
    w.cell? ⟨b, 0, none⟩ = some (.int .i64 first) ∧ w.cell? ⟨b, 1, none⟩ = some (.int .i64 many) ∧ w.cell? ⟨b, 2, none⟩ = some (.int .i64 fresh) ∧ w.cell? ⟨b, 3, none⟩ = some v ∧ w.cell? ⟨b, 4, none⟩ = some (.map (some m)) ∧
    w.frozen? ⟨b, 2, none⟩ = false ∧ w.frozen? ⟨b, 3, none⟩ = false :=
  ⟨Has.cell [] _ hH 0 rfl, Has.cell [] _ hH 1 rfl, Has.cell [] _ hH 2 rfl, Has.cell [] _ hH 3 rfl, Has.cell [] _ hH 4 rfl, Has.frozen [] _ hH 2, Has.frozen [] _ hH 3⟩

set_option maxHeartbeats 400000 in
theorem take_back (b m gb k cap n : Nat) (first many fresh x : Int) (g : Int → Option Int) (xs : List Value) (w : World) (B : Nat) (X : List Asr)
    (b1 : 0 ≤ first) (b2 : first ≤ 256) (b3 : 0 ≤ fresh) (b4 : fresh ≤ 256) (x1 : 0 ≤ x) (x2 : x ≤ 1000) (hn : n ≤ 1000) (hk : k ≤ 1000) (hkc : k + 1 ≤ cap)
    (hxs : xs[k]? = some (.int .i64 x))
    (hH : Has w B (blk b 120 #[.int .i64 first, .int .i64 many, .int .i64 fresh, .slice (some ⟨gb, 0, none⟩) (k + 1) cap, .map (some m)] :: imap Try.prog 3 m g n :: row 3 1 (.slice (some ⟨gb, 0, none⟩) (k + 1) cap) (k + 1) xs :: X)) :
    Calls Try.prog 57 #[.pointer (some ⟨b, 0, none⟩)] w (Ends (fun y : Int => .tuple #[.int .i64 x, .bool true])
      (fun y => [blk b 120 #[.int .i64 first, .int .i64 many, .int .i64 fresh, .slice (some ⟨gb, 0, none⟩) k cap, .map (some m)], imap Try.prog 3 m (upd g x (some y)) (more g x n), row 3 1 (.slice (some ⟨gb, 0, none⟩) k cap) k (xs.take k)]) X B w) := by
  obtain ⟨c0, c1, c2, c3, c4, f2, f3⟩ := free_cells hH
  have hx := Has.row_cell [_, _] _ hH k hxs
  have hcut := Has.row_cut1 [_, _] _ hH (k := k) (by omega)
  have hw : (Lit.int .i64 x).wf = true := WalkArith.wf_i64 (by omega)
  clear hxs hH
  go_enter Try.func57, Try.ntmps57
  go_wp2
  go_quiet (fail)
  go_wp2_with (first
    | (at_lookup; refine wpList_map_get [_] _ ((hcut.drewN _).set [] _ 3 _) rfl _ _ 118 rfl Try.underlying118 Try.underlying3 (zeroInt _) rfl _ rfl hw ?_)
    | (at_mapUpdate; refine wpList_map_put [_] _ ((hcut.drewN _).set [] _ 3 _) rfl _ _ _ 118 rfl Try.underlying118 Try.underlying3 rfl _ _ rfl rfl hw (wrap64_wf _) (by unfold maxLen; omega) ?_; intro w1 hH1 hB1)
    | go_in)
  go_ret2
  exact ⟨_, rfl, hH1, (below_set (below_drewN (Below.refl B w) _) [] _ (hcut.drewN _) 3 _).trans hB1⟩

set_option maxHeartbeats 400000 in
theorem take_fresh (b m c n : Nat) (a : Option Addr) (first many fresh : Int) (g : Int → Option Int) (w : World) (B : Nat) (X : List Asr)
    (b1 : 0 ≤ first) (b2 : first ≤ 256) (b3 : 0 ≤ fresh) (b4 : fresh ≤ 256) (hlt : fresh < many) (hn : n ≤ 1000)
    (hH : Has w B (blk b 120 #[.int .i64 first, .int .i64 many, .int .i64 fresh, .slice a 0 c, .map (some m)] :: imap Try.prog 3 m g n :: X)) :
    Calls Try.prog 57 #[.pointer (some ⟨b, 0, none⟩)] w (Ends (fun y : Int => .tuple #[.int .i64 (first + fresh), .bool true])
      (fun y => [blk b 120 #[.int .i64 first, .int .i64 many, .int .i64 (fresh + 1), .slice a 0 c, .map (some m)], imap Try.prog 3 m (upd g (first + fresh) (some y)) (more g (first + fresh) n)]) X B w) := by
  obtain ⟨c0, c1, c2, c3, c4, f2, f3⟩ := free_cells hH
  have hd : decide (fresh < many) = true := by simpa using hlt
  have hw : (Lit.int .i64 (first + fresh)).wf = true := WalkArith.wf_i64 (by omega)
  go_enter Try.func57, Try.ntmps57
  go_wp2
  go_quiet (fail)
  go_wp2
  go_quiet (fail)
  go_wp2_with (first
    | (at_lookup; refine wpList_map_get [_] _ ((hH.drewN _).set [] _ 2 _) rfl _ _ 118 rfl Try.underlying118 Try.underlying3 (zeroInt _) rfl _ rfl hw ?_)
    | (at_mapUpdate; refine wpList_map_put [_] _ ((hH.drewN _).set [] _ 2 _) rfl _ _ _ 118 rfl Try.underlying118 Try.underlying3 rfl _ _ rfl rfl hw (wrap64_wf _) (by unfold maxLen; omega) ?_; intro w1 hH1 hB1)
    | go_in)
  go_ret2
  exact ⟨_, rfl, hH1, (below_set (below_drewN (Below.refl B w) _) [] _ (hH.drewN _) 2 _).trans hB1⟩

set_option maxHeartbeats 400000 in
theorem take_none (b m c n : Nat) (a : Option Addr) (first many fresh : Int) (g : Int → Option Int) (w : World) (B : Nat) (X : List Asr)
    (b1 : 0 ≤ first) (b2 : first ≤ 256) (b3 : 0 ≤ fresh) (b4 : fresh ≤ 256) (hlt : ¬ fresh < many)
    (hH : Has w B (blk b 120 #[.int .i64 first, .int .i64 many, .int .i64 fresh, .slice a 0 c, .map (some m)] :: imap Try.prog 3 m g n :: X)) :
    Calls Try.prog 57 #[.pointer (some ⟨b, 0, none⟩)] w (Ends (fun y : Unit => .tuple #[.int .i64 0, .bool false])
      (fun y => [blk b 120 #[.int .i64 first, .int .i64 many, .int .i64 fresh, .slice a 0 c, .map (some m)], imap Try.prog 3 m g n]) X B w) := by
  obtain ⟨c0, c1, c2, c3, c4, f2, f3⟩ := free_cells hH
  have hd : decide (fresh < many) = false := by simpa using hlt
  go_enter Try.func57, Try.ntmps57
  go_wp2
  go_quiet (fail)
  go_wp2
  go_quiet (fail)
  go_wp2
  go_ret2
  exact ⟨(), rfl, (hH.drewN _).drewN _, below_drewN (below_drewN (Below.refl B w) _) _⟩

theorem infoInt : (Try.prog.info? 3).map (fun i => (i.zero, i.size, i.bytes)) = some (some (.int .i64 0), 1, 8) := by kernel_rfl

set_option maxHeartbeats 400000 in
theorem give_no (b m n : Nat) (v : Value) (first many fresh f : Int) (g : Int → Option Int) (w : World) (B : Nat) (X : List Asr) (hw : (Lit.int .i64 f).wf = true) (hg : (g f).isSome = false)
    (hH : Has w B (blk b 120 #[.int .i64 first, .int .i64 many, .int .i64 fresh, v, .map (some m)] :: imap Try.prog 3 m g n :: X)) :
    Calls Try.prog 55 #[.pointer (some ⟨b, 0, none⟩), .int .i64 f] w fun e w' => e = .returned (.bool false) ∧ w = w' := by
  obtain ⟨c0, c1, c2, c3, c4, f2, f3⟩ := free_cells hH
  go_enter Try.func55, Try.ntmps55
  go_wp2_with (first
    | (at_lookup; refine wpList_map_get_ok [_] _ hH rfl _ _ 118 rfl Try.underlying118 Try.underlying3 (zeroInt _) rfl _ rfl hw ?_)
    | go_in)
  go_ret
  exact ⟨rfl, rfl⟩

set_option maxHeartbeats 400000 in
theorem give_yes (b m n k : Nat) (v : Value) (first many fresh f : Int) (g : Int → Option Int) (xs : List Value) (w : World) (B : Nat) (X : List Asr) (hw : (Lit.int .i64 f).wf = true) (hg : (g f).isSome = true) (hk : k ≤ 1000)
    (hH : Has w B (blk b 120 #[.int .i64 first, .int .i64 many, .int .i64 fresh, v, .map (some m)] :: imap Try.prog 3 m g n :: row 3 1 v k xs :: X)) :
    Calls Try.prog 55 #[.pointer (some ⟨b, 0, none⟩), .int .i64 f] w (Ends (fun _ : Nat × Nat => .bool true)
      (fun y => [blk b 120 #[.int .i64 first, .int .i64 many, .int .i64 fresh, .slice (some ⟨y.1, 0, none⟩) (k + 1) y.2, .map (some m)], imap Try.prog 3 m (upd g f none) (less g f n), row 3 1 (.slice (some ⟨y.1, 0, none⟩) (k + 1) y.2) (k + 1) (xs ++ [.int .i64 f])]) X B w) := by
  obtain ⟨c0, c1, c2, c3, c4, f2, f3⟩ := free_cells hH
  obtain ⟨i0, hi, hz0, hz1, hz2⟩ := info_parts infoInt
  go_enter Try.func55, Try.ntmps55
  go_wp2_with (first
    | (at_lookup; refine wpList_map_get_ok [_] _ hH rfl _ _ 118 rfl Try.underlying118 Try.underlying3 (zeroInt _) rfl _ rfl hw ?_)
    | (at_delete; refine wpList_map_del [_] _ hH rfl _ _ 118 rfl Try.underlying118 Try.underlying3 rfl _ rfl hw ?_; intro w1 hH1 hB1; obtain ⟨d0, d1, d2, d3, d4, e2, e3⟩ := free_cells hH1)
    | (at_builtin; refine wpList_append_row [_, _] _ (hH1.alloc _) rfl _ _ 36 rfl i0 (.int .i64 0) 8 Try.underlying36 hi hz0 hz1 hz2 rfl (by decide) rfl ⟨w1.heap.size, 0, none⟩ 1 1 [.int .i64 f] rfl rfl (cell_one_new _ _ _) (by simp [Value.oneCell']) (by decide) (by unfold maxLen; omega) (by omega) ?_; intro ga cap w2 hH2 hB2; obtain ⟨g0, g1, g2, g3, g4, h2, h3⟩ := free_cells hH2)
    | go_in)
  go_ret
  exact ⟨(ga, cap), rfl, hH2.set [] _ 3 _, hB1.trans (below_set ((below_new (Below.refl B w1) hH1 _).trans hB2) [] _ hH2 3 _)⟩

def hasB (first many f : Int) (tk : Bool) : Bool := decide (first ≤ f) && decide (f < first + many) && !tk

set_option maxHeartbeats 400000 in
theorem left_walk (b m n : Nat) (v : Value) (first many fresh : Int) (g : Int → Option Int) (w : World) (B : Nat) (X : List Asr) (b3 : 0 ≤ many) (b4 : many ≤ 256) (hn : n ≤ 1000)
    (hH : Has w B (blk b 120 #[.int .i64 first, .int .i64 many, .int .i64 fresh, v, .map (some m)] :: imap Try.prog 3 m g n :: X)) :
    Calls Try.prog 59 #[.pointer (some ⟨b, 0, none⟩)] w fun e w' => e = .returned (.int .i64 (many - n)) ∧ ∃ nq, w' = w.drewN nq := by
  obtain ⟨c0, c1, c2, c3, c4, f2, f3⟩ := free_cells hH
  have hl : ∀ nq ty, Sem.run Try.prog (Builtin.len_ #[118] ty #[.map (some m)]) (w.drewN nq) = .ok (.int .i64 n) (w.drewN nq) := by
    intro nq ty
    obtain ⟨⟨D, hD, hs, _⟩, _⟩ := (hH.drewN nq).map_at [_] _
    rw [← hs]
    exact hD.len Try.underlying118 ty
  go_enter Try.func59, Try.ntmps59
  go_wp2
  go_quiet (fail)
  go_wp2
  go_ret
  exact ⟨rfl, _, rfl⟩

/-! ### what the pure steps keep -/
theorem freshL_end (first many : Int) : freshL first many many = [] := by simp [freshL]
theorem freshL_step (first many fresh : Int) (h0 : fresh < many) : freshL first many fresh = freshL first many (fresh + 1) ++ [first + fresh] := by
  unfold freshL
  obtain ⟨d, hd⟩ : ∃ d : Nat, many - fresh = d + 1 := ⟨(many - fresh - 1).toNat, by omega⟩
  rw [show (many - fresh).toNat = d + 1 from by omega, show (many - (fresh + 1)).toNat = d from by omega, List.range_succ, List.map_append]
  simp
  omega
theorem freshL_mem (first many fresh x : Int) : x ∈ freshL first many fresh ↔ first + fresh ≤ x ∧ x < first + many := by
  unfold freshL
  simp only [List.mem_map, List.mem_range]
  constructor
  · rintro ⟨i, hi, rfl⟩; omega
  · intro h; exact ⟨(first + many - 1 - x).toNat, by omega, by omega⟩
theorem freshL_length (first many fresh : Int) : (freshL first many fresh).length = (many - fresh).toNat := by simp [freshL]

theorem FreeInv.mem {first many : Int} {s : FreeS} {F : List Int} (h : FreeInv first many s F) (x : Int) : x ∈ F ↔ first ≤ x ∧ x < first + many ∧ (s.g x).isSome = false := by
  have h5 := h.a5
  have h6 := h.a6
  rw [h.eq, List.mem_append, freshL_mem, h.tk]
  constructor
  · rintro (h1 | h1)
    · refine ⟨by omega, h1.2, ?_⟩
      simp; intro h2 h3; omega
    · have := h.rg x h1
      exact ⟨this.1, by omega, by simp [h1]⟩
  · rintro ⟨h1, h2, h3⟩
    simp at h3
    by_cases hx : x < first + s.fresh
    · exact .inr (h3 h1 hx)
    · exact .inl ⟨by omega, h2⟩

theorem FreeInv.length {first many : Int} {s : FreeS} {F : List Int} (h : FreeInv first many s F) : (F.length : Int) = many - s.n := by
  have h5 := h.a5
  have h6 := h.a6
  rw [h.eq, List.length_append, freshL_length, h.ln]
  omega

theorem FreeInv.nodup {first many : Int} {s : FreeS} {F : List Int} (h : FreeInv first many s F) : F.Nodup := by
  rw [h.eq, List.nodup_append]
  refine ⟨?_, h.nd, fun a ha b hb e => ?_⟩
  · unfold freshL
    exact List.pairwise_map.2 (List.Pairwise.imp (fun h e => h (by omega)) List.nodup_range)
  · subst e
    have := (freshL_mem _ _ _ _).1 ha
    have := h.rg _ hb
    omega

end Go.Proofs.Yteeapkndappnoaa
