/-
  Contracts of package tlb: what is known, as a list without two of one page.
-/
import Derived.Test.YtlcdjdchcjnhfaaTlbLib2
import Derived.Test.YtlcdjdchcjnhfaaReg
import Derived.Deep.RegionHeld3
namespace Go.Proofs.Ytlcdjdchcjnhfaa
open Go.RowKit
set_option linter.unusedVariables false
set_option linter.unusedSimpArgs false

/-- No page is there twice. -/
def uniq (L : List HitS) : Prop := L.Pairwise fun g h => ¬ (g.a = h.a ∧ g.p = h.p)
theorem uniq_sub {L M : List HitS} (h : M.Sublist L) (hu : uniq L) : uniq M := List.Pairwise.sublist h hu
/-- Without a page. -/
def dropL (a p : Int) (L : List HitS) : List HitS := L.filter fun h => !keyB a p h
theorem keyB_true {a p : Int} {h : HitS} : keyB a p h = true ↔ h.a = a ∧ h.p = p := by simp [keyB, keyE]
theorem keyB_false {a p : Int} {h : HitS} : keyB a p h = false ↔ ¬ (h.a = a ∧ h.p = p) := by rw [← keyB_true]; simp
theorem dropL_none {a p : Int} {L : List HitS} (h : ∀ g ∈ L, keyB a p g = false) : dropL a p L = L := by
  unfold dropL
  rw [List.filter_eq_self]
  intro g hg
  rw [h g hg]
  rfl
theorem dropL_at {a p : Int} {L : List HitS} {k : Nat} {h : HitS} (hu : uniq L) (hk : L[k]? = some h) (hq : keyB a p h = true) : L.eraseIdx k = dropL a p L := by
  obtain ⟨h1, h2⟩ := List.getElem?_eq_some_iff.1 hk
  have hs : L = L.take k ++ h :: L.drop (k + 1) := by
    rw [← h2, ← List.drop_eq_getElem_cons h1, List.take_append_drop]
  have hp := hu
  rw [hs] at hp
  unfold uniq at hp
  rw [List.pairwise_append, List.pairwise_cons] at hp
  have hkey := keyB_true.1 hq
  have e1 : dropL a p (L.take k) = L.take k := dropL_none fun g hg => keyB_false.2 fun hh => hp.2.2 g hg h (by simp) ⟨hh.1.trans hkey.1.symm, hh.2.trans hkey.2.symm⟩
  have e2 : dropL a p (L.drop (k + 1)) = L.drop (k + 1) := dropL_none fun g hg => keyB_false.2 fun hh => hp.2.1.1 g hg ⟨hkey.1.trans hh.1.symm, hkey.2.trans hh.2.symm⟩
  rw [List.eraseIdx_eq_take_drop_succ]
  have e3 : dropL a p L = dropL a p (L.take k ++ h :: L.drop (k + 1)) := congrArg _ hs
  rw [e3]
  unfold dropL at *
  rw [List.filter_append, e1, List.filter_cons_of_neg (by simp [hq]), e2]
theorem dropL_uniq {a p : Int} {L : List HitS} (hu : uniq L) : uniq (dropL a p L) := uniq_sub List.filter_sublist hu
theorem dropL_le (a p : Int) (L : List HitS) : (dropL a p L).length ≤ L.length := List.length_filter_le _ _
/-- What Put leaves. -/
def putL (n : Nat) (L : List HitS) (h : HitS) : List HitS := (if (dropL h.a h.p L).length = n then (dropL h.a h.p L).eraseIdx 0 else dropL h.a h.p L) ++ [h]
theorem putL_uniq {n : Nat} {L : List HitS} {h : HitS} (hu : uniq L) : uniq (putL n L h) := by
  have h1 := dropL_uniq (a := h.a) (p := h.p) hu
  have hno : ∀ g ∈ dropL h.a h.p L, ¬ (g.a = h.a ∧ g.p = h.p) := fun g hg hh => by
    have := (List.mem_filter.1 hg).2
    rw [keyB_true.2 hh] at this
    cases this
  unfold putL uniq
  rw [List.pairwise_append]
  refine ⟨?_, by simp, fun g hg x hx => ?_⟩
  · split
    · exact uniq_sub (List.eraseIdx_sublist _ _) h1
    · exact h1
  · simp at hx
    subst hx
    split at hg
    · exact hno g ((List.eraseIdx_sublist _ _).subset hg)
    · exact hno g hg
theorem putL_len {n : Nat} {L : List HitS} {h : HitS} (hn : 1 ≤ n) (hl : L.length ≤ n) : (putL n L h).length ≤ n := by
  have := dropL_le h.a h.p L
  unfold putL
  split
  · rename_i e
    rw [List.length_append, List.length_eraseIdx_of_lt (by omega)]
    simp
    omega
  · simp
    omega

/-- The program's, at block b. -/
def TlbA (b n : Nat) (L : List HitS) : Asr :=
  Asr.ex fun v : Value => Asr.and (1 ≤ n ∧ n ≤ 512 ∧ L.length ≤ n ∧ uniq L) <| Asr.all [blk b 79 #[.int .i64 n, v], row 46 7 v L.length (hitsC L)]
theorem TlbA.open {b n : Nat} {L : List HitS} {w : World} {B : Nat} {X : List Asr} (hH : Has w B (TlbA b n L :: X)) : ∃ ao cap, (1 ≤ n ∧ n ≤ 512 ∧ L.length ≤ n ∧ uniq L) ∧
    Has w B (blk b 79 #[.int .i64 n, .slice ao L.length cap] :: row 46 7 (.slice ao L.length cap) L.length (hitsC L) :: X) ∧ (0 < L.length → ∃ g, ao = some ⟨g, 0, none⟩) := by
  obtain ⟨v, hH⟩ := hH.open_ex
  obtain ⟨hI, hH⟩ := hH.open_and
  have hO := hH.open_all
  have hO2 : Has w B ([blk b 79 #[.int .i64 n, v]] ++ row 46 7 v L.length (hitsC L) :: X) := hO
  obtain ⟨ao, cap, rfl, _, _, hao⟩ := hO2.row_form [_] _
  exact ⟨ao, cap, hI, hO, hao⟩
theorem TlbA.shut {b n : Nat} {v : Value} {L : List HitS} {w : World} {B : Nat} {X : List Asr} (hI : 1 ≤ n ∧ n ≤ 512 ∧ L.length ≤ n ∧ uniq L)
    (hH : Has w B (blk b 79 #[.int .i64 n, v] :: row 46 7 v L.length (hitsC L) :: X)) : Has w B (TlbA b n L :: X) :=
  Has.shut_ex v (Has.shut_and hI (Has.shut_all _ hH))

/-- What New hands back. -/
def TlbNewPost (m : Int) (X : List Asr) (B : Nat) (w : World) (e : Ending) (w' : World) : Prop :=
  (¬ (1 ≤ m ∧ m ≤ 512) ∧ e = .returned (.pointer none) ∧ Has w' B X ∧ Below B w w') ∨
  (∃ b n : Nat, m = n ∧ 1 ≤ n ∧ n ≤ 512 ∧ e = .returned (.pointer (some ⟨b, 0, none⟩)) ∧ Has w' B (TlbA b n [] :: X) ∧ Below B w w')
theorem TlbNew_calls (m : Int) (w : World) (B : Nat) (X : List Asr) (hH : Has w B X) :
    Calls Try.prog 12 #[.int .i64 m] w (TlbNewPost m X B w) := by
  by_cases h1 : m < 1
  · have e1 : decide (m < 1) = true := by rw [decide_eq_true_eq]; exact h1
    go_enter Try.func12, Try.ntmps12
    go_wp2_with fail
    go_ret
    exact .inl ⟨by omega, rfl, hH, Below.refl _ _⟩
  · have e1 : decide (m < 1) = false := by rw [decide_eq_false_iff_not]; exact h1
    by_cases h2 : 512 < m
    · have e2 : decide (512 < m) = true := by rw [decide_eq_true_eq]; exact h2
      go_enter Try.func12, Try.ntmps12
      go_wp2_with fail
      go_ret
      exact .inl ⟨by omega, rfl, hH, Below.refl _ _⟩
    · have e2 : decide (512 < m) = false := by rw [decide_eq_false_iff_not]; exact h2
      obtain ⟨n, rfl⟩ := Int.eq_ofNat_of_zero_le (show 0 ≤ m by omega)
      go_enter Try.func12, Try.ntmps12
      go_wp2_with fail
      go_ret
      have hN := (hH.nilrow 46 7).newblk w.heap.size 79 #[.int .i64 n, .slice none 0 0] rfl
      exact .inr ⟨w.heap.size, n, rfl, by omega, by omega, rfl, TlbA.shut (L := []) ⟨by omega, by omega, by simp, List.Pairwise.nil⟩ hN, below_new (Below.refl _ _) hH _⟩

theorem TMany_calls (b n : Nat) (L : List HitS) (w : World) (B : Nat) (X : List Asr) (hH : Has w B (TlbA b n L :: X)) :
    Calls Try.prog 37 #[.pointer (some ⟨b, 0, none⟩)] w fun e w' => e = .returned (.int .i64 L.length) ∧ w = w' := by
  obtain ⟨ao, cap, _, hO, _⟩ := TlbA.open hH
  have c1 := hO.cell [] _ 1 (v := .slice ao L.length cap) rfl
  clear hH hO
  go_enter Try.func37, Try.ntmps37
  go_wp2_with fail
  go_ret
  exact ⟨rfl, rfl⟩

theorem List_calls (b n : Nat) (L : List HitS) (w : World) (B : Nat) (X : List Asr) (hH : Has w B (TlbA b n L :: X)) :
    Calls Try.prog 31 #[.pointer (some ⟨b, 0, none⟩)] w fun e w' => ∃ v, e = .returned v ∧ Has w' B (row 46 7 v L.length (hitsC L) :: TlbA b n L :: X) ∧ Below B w w' := by
  obtain ⟨ao, cap, hI, hO, _⟩ := TlbA.open hH
  have c1 := hO.cell [] _ 1 (v := .slice ao L.length cap) rfl
  have cc := Clone_calls ao cap L (by omega) w B _ (hO.front [_] _)
  have CC := hid cc
  have HI := hid hI
  clear hH hO cc hI
  go_enter Try.func31, Try.ntmps31
  go_wp2_with fail
  refine CC.out.mono ?_
  rintro e w2 ⟨v, rfl, hH2, hB2⟩
  go_wp2_with fail
  go_ret
  exact ⟨v, rfl, (TlbA.shut HI.out ((hH2.front [_, _] _).perm (List.Perm.cons _ (List.Perm.swap _ _ _)))).front [_] _, hB2⟩

set_option maxHeartbeats 1000000 in
theorem at_calls (b n : Nat) (L : List HitS) (a p : Int) (w : World) (B : Nat) (X : List Asr) (hH : Has w B (TlbA b n L :: X)) :
    Calls Try.prog 49 #[.pointer (some ⟨b, 0, none⟩), .agg #[.int .i64 a, .int .i64 p]] w fun e w' => ∃ r, e = .returned (.int .i64 r) ∧ IdxIs (keyB a p) L r ∧ Has w' B (TlbA b n L :: X) ∧ Below B w w' := by
  obtain ⟨ao, cap, hI, hO, _⟩ := TlbA.open hH
  have hK := hO.newblk w.heap.size 96 #[.int .i64 a, .int .i64 p] rfl
  have hBK := below_new (Below.refl B w) hO (.cells #[.int .i64 a, .int .i64 p] 96)
  have c1 := hK.cell [_] _ 1 (v := .slice ao L.length cap) rfl
  have cc := IndexAt ao cap L w.heap.size a p _ B _ (by omega) ((hK.front [_, _] _))
  have CC := hid cc
  have HI := hid hI
  clear hH hO cc hI hK
  go_enter Try.func49, Try.ntmps49
  go_wp2_with fail
  refine CC.out.mono ?_
  rintro e w2 ⟨r, rfl, hidx, hH2, hB2⟩
  have HX := hid hidx
  clear hidx
  go_wp2_with fail
  go_ret
  exact ⟨r, rfl, HX.out, TlbA.shut HI.out ((hH2.front [_] _).drop.front [_] _), hBK.trans hB2⟩

set_option maxHeartbeats 1000000 in
set_option maxRecDepth 100000 in
theorem Drop_calls (b n : Nat) (L : List HitS) (a p : Int) (w : World) (B : Nat) (X : List Asr) (hH : Has w B (TlbA b n L :: X)) :
    Calls Try.prog 17 #[.pointer (some ⟨b, 0, none⟩), .int .i64 a, .int .i64 p] w fun e w' => e = .returned (.bool (L.any (keyB a p))) ∧ Has w' B (TlbA b n (dropL a p L) :: X) ∧ Below B w w' := by
  go_enter Try.func17, Try.ntmps17
  go_wp2_with fail
  refine (at_calls b n L a p w B X hH).mono ?_
  rintro e w2 ⟨r, rfl, hidx, hH2, hB2⟩
  rcases hidx with ⟨rfl, hall⟩ | ⟨k, h, rfl, hk, hq, _⟩
  · have h1 : L.any (keyB a p) = false := by
      rw [List.any_eq_false]
      intro g hg
      rw [hall g hg]
      simp
    have H1 := hid h1
    have H2 := hid (dropL_none hall)
    clear hall h1 hH
    go_wp2_with fail
    go_ret
    exact ⟨by rw [H1.out]; rfl, by rw [H2.out]; exact hH2, hB2⟩
  · have h1 : L.any (keyB a p) = true := by
      rw [List.any_eq_true]
      exact ⟨h, List.mem_of_getElem? hk, hq⟩
    have H1 := hid h1
    have hkl := (List.getElem?_eq_some_iff.1 hk).1
    obtain ⟨ao, cap, hI, hO, hao⟩ := TlbA.open hH2
    obtain ⟨g, rfl⟩ := hao (by omega)
    have hdr := dropL_at hI.2.2.2 hk hq
    have hlen : (dropL a p L).length = L.length - 1 := by rw [← hdr, List.length_eraseIdx_of_lt hkl]
    have c1 := hO.cell [] _ 1 (v := .slice (some ⟨g, 0, none⟩) L.length cap) rfl
    have cd := Delete_calls g cap L k hkl (by omega) w2 B _ (hO.front [_] _)
    rw [hdr, ← hlen] at cd
    have CD := hid cd
    have HI := hid hI
    have HLN := hid hlen
    have hk512 : k < 512 := by omega
    clear hk hq hdr hI hlen h1 cd hO hH2 hH
    go_wp2_with fail
    refine CD.out.mono ?_
    rintro e w3 ⟨rfl, hH3, hB3⟩
    have hB3 := hB2.trans hB3
    have c1 := hH3.cell [_] _ 1 (v := .slice (some ⟨g, 0, none⟩) L.length cap) rfl
    have f1 := hH3.frozen [_] _ 1
    have hS := hH3.set [_] _ 1 (.slice (some ⟨g, 0, none⟩) (dropL a p L).length cap)
    have hBS := below_set hB3 [_] _ hH3 1 (.slice (some ⟨g, 0, none⟩) (dropL a p L).length cap)
    clear CD hH3 hB3 hB2
    go_wp2_with fail
    go_ret
    exact ⟨by rw [H1.out]; rfl, TlbA.shut ⟨HI.out.1, HI.out.2.1, by have := dropL_le a p L; have := HI.out.2.2.1; omega, dropL_uniq HI.out.2.2.2⟩ (hS.front [_] _), hBS⟩

set_option maxHeartbeats 1000000 in
theorem Flush_calls (b n : Nat) (L : List HitS) (a : Int) (w : World) (B : Nat) (X : List Asr) (hH : Has w B (TlbA b n L :: X)) :
    Calls Try.prog 36 #[.pointer (some ⟨b, 0, none⟩), .int .i64 a] w fun e w' => e = .returned (.tuple #[]) ∧ Has w' B (TlbA b n (keepF a L) :: X) ∧ Below B w w' := by
  obtain ⟨ao, cap, hI, hO, _⟩ := TlbA.open hH
  have hK := hO.newblk w.heap.size 3 #[.int .i64 a] rfl
  have hBK := below_new (Below.refl B w) hO (.cells #[.int .i64 a] 3)
  have c1 := hK.cell [_] _ 1 (v := .slice ao L.length cap) rfl
  have cc := DeleteFunc_calls ao cap L w.heap.size a (by omega) _ B _ (hK.front [_, _] _)
  have CC := hid cc
  have HI := hid hI
  clear hH hO cc hI hK
  go_enter Try.func36, Try.ntmps36
  go_wp2_with fail
  refine CC.out.mono ?_
  rintro e w3 ⟨rfl, hH3, hB3⟩
  have hB3 := hBK.trans hB3
  have c1 := hH3.cell [_, _] _ 1 (v := .slice ao L.length cap) rfl
  have f1 := hH3.frozen [_, _] _ 1
  have hS := hH3.set [_, _] _ 1 (.slice ao (keepF a L).length cap)
  have hBS := below_set hB3 [_, _] _ hH3 1 (.slice ao (keepF a L).length cap)
  clear CC hH3 hB3 hBK
  go_wp2_with fail
  go_end0
  exact ⟨rfl, TlbA.shut ⟨HI.out.1, HI.out.2.1, by have := keepF_len a L; have := HI.out.2.2.1; omega, uniq_sub List.filter_sublist HI.out.2.2.2⟩ (((hS.front [_] _).drop).front [_] _), hBS⟩

def hit0 : HitS := ⟨0, 0, 0, false, false, false, false⟩
/-- What Get answers. -/
def getV (L : List HitS) (a p : Int) : Value := .tuple #[.agg (hitC ((L.find? (keyB a p)).getD hit0)).toArray, .bool (L.find? (keyB a p)).isSome]
theorem find_at {q : HitS → Bool} {L : List HitS} {k : Nat} {h : HitS} (hk : L[k]? = some h) (hq : q h = true) (hall : ∀ (j : Nat) g, j < k → L[j]? = some g → q g = false) : L.find? q = some h := by
  rw [List.find?_eq_some_iff_getElem]
  obtain ⟨h1, h2⟩ := List.getElem?_eq_some_iff.1 hk
  exact ⟨hq, k, h1, h2, fun j hj => by simp [hall j L[j] hj (List.getElem?_eq_getElem (by omega))]⟩

theorem results_hit {P : Program} {fn : Func} {p t : Tmp} {ty : TypeId} (h : fn.results = #[.cell p ty, .tmp t]) (tmps : Array Value) (w : World) (g : Nat) (ty' : TypeId) (cs : Array Value) (fr : Nat × Nat) (d : TypeDesc)
    (hp : tmps.getD p undef = .pointer (some ⟨g, 0, none⟩)) (hg : w.heap[g]? = some (.cells cs ty' fr))
    (hu : P.underlying ty = some d) (hd : (match d with | .struct _ | .array _ _ => true | _ => false) = true) (hi : (P.info? ty).map (·.size) = some cs.size) :
    (results fn tmps).run P w = .ok (.tuple #[.agg cs, tmps.getD t undef]) w := by
  have hp' : tmps[p]?.getD undef = .pointer (some ⟨g, 0, none⟩) := by simpa using hp
  simp [results, h, hp', asAddr, run_loadVar_row w g ty' ty cs fr d hg hu hd hi]

set_option maxHeartbeats 1000000 in
set_option maxRecDepth 100000 in
theorem TGet_calls (b n : Nat) (L : List HitS) (a p : Int) (w : World) (B : Nat) (X : List Asr) (hH : Has w B (TlbA b n L :: X)) :
    Calls Try.prog 20 #[.pointer (some ⟨b, 0, none⟩), .int .i64 a, .int .i64 p] w fun e w' => e = .returned (getV L a p) ∧ Has w' B (TlbA b n L :: X) ∧ Below B w w' := by
  have hR := hH.newblk w.heap.size 46 hitZ rfl
  have hBR := below_new (Below.refl B w) hH (.cells hitZ 46)
  have ca := at_calls b n L a p _ B _ (hR.front [_] _)
  have CA := hid ca
  generalize hrb : w.heap.size = rb at *
  clear ca hR hH
  go_enter Try.func20, Try.ntmps20
  go_wp2_with fail
  refine CA.out.mono ?_
  rintro e w2 ⟨r, rfl, hidx, hH2, hB2⟩
  have hB2 := hBR.trans hB2
  rcases hidx with ⟨rfl, hall⟩ | ⟨k, h, rfl, hk, hq, hfirst⟩
  · have h1 : getV L a p = .tuple #[.agg (hitC hit0).toArray, .bool false] := by
      have : L.find? (keyB a p) = none := by
        rw [List.find?_eq_none]
        intro g hg
        rw [hall g hg]
        simp
      simp [getV, this]
    have H1 := hid h1
    clear hall h1 CA
    go_wp2_with (refine wpList_store_all [_] _ hH2 46 (.tmp 6) (.tmp 16) rfl rfl rfl (hitC hit0).toArray rfl hit_size' rfl (hitC_one _) ?_; intro w3 hH3 hB3 hz3; clear hz3)
    exact bodyPost_ret (results_hit (fn := Try.f20) rfl _ w3 rb 46 _ (0, 0) _ rfl (hH3.blk_at [_] _).1 Try.underlying46 rfl hit_size') rfl ⟨by rw [H1.out]; rfl, (hH3.front [_] _).drop, hB2.trans hB3⟩
  · have h1 : getV L a p = .tuple #[.agg (hitC h).toArray, .bool true] := by simp [getV, find_at hk hq hfirst]
    have H1 := hid h1
    have hkl := (List.getElem?_eq_some_iff.1 hk).1
    obtain ⟨ao, cap, hI, hO, hao⟩ := TlbA.open hH2
    obtain ⟨g, rfl⟩ := hao (by omega)
    have c1 := hO.cell [] _ 1 (v := .slice (some ⟨g, 0, none⟩) L.length cap) rfl
    have P := hid (hO.row_part [_] _ (k * 7) (hitC h) (hitsC_get hk))
    have HI := hid hI
    clear hk hq hfirst h1 CA hH2 hI
    go_wp2_with (first
      | (refine wpList_load_at 46 (.tmp 22) rfl rfl ⟨g, k * 7, none⟩ rfl _ (hitC h) P.out Try.underlying46 rfl hit_size ?_)
      | (refine wpList_store_all [_, _] _ hO 46 (.tmp 6) (.tmp 23) rfl rfl rfl (hitC h).toArray rfl hit_size' rfl (hitC_one _) ?_; intro w3 hH3 hB3 hz3; clear hz3))
    exact bodyPost_ret (results_hit (fn := Try.f20) rfl _ w3 rb 46 _ (0, 0) _ rfl (hH3.blk_at [_, _] _).1 Try.underlying46 rfl hit_size') rfl ⟨by rw [H1.out]; rfl, TlbA.shut HI.out (hH3.front [_, _] _).drop, hB2.trans hB3⟩

set_option maxHeartbeats 2000000 in
set_option maxRecDepth 100000 in
theorem TPut_calls (b n : Nat) (L : List HitS) (h : HitS) (w : World) (B : Nat) (X : List Asr) (hH : Has w B (TlbA b n L :: X)) :
    Calls Try.prog 42 #[.pointer (some ⟨b, 0, none⟩), .agg (hitC h).toArray] w fun e w' => e = .returned (.tuple #[]) ∧ Has w' B (TlbA b n (putL n L h) :: X) ∧ Below B w w' := by
  obtain ⟨i0, hi0, hz0, hz1, hz2⟩ := info_parts infoHit
  have hK := hH.newblk w.heap.size 46 (hitC h).toArray rfl
  have hBK := below_new (Below.refl B w) hH (.cells (hitC h).toArray 46)
  have k0 := hK.cell [] _ 0 (v := .int .i64 h.a) rfl
  have k1 := hK.cell [] _ 1 (v := .int .i64 h.p) rfl
  have cd := Drop_calls b n L h.a h.p _ B _ (hK.front [_] _)
  have CD := hid cd
  have HU := hid (TlbA.open hH).choose_spec.choose_spec.1.2.2.2
  have HU := hid (TlbA.open hH).choose_spec.choose_spec.1.2.2.2
  have HU := hid (TlbA.open hH).choose_spec.choose_spec.1.2.2.2
  generalize hrb : w.heap.size = rb at *
  clear cd hK hH
  go_enter Try.func42, Try.ntmps42
  go_wp2_with fail
  refine CD.out.mono ?_
  rintro e w2 ⟨rfl, hH2, hB2⟩
  have hB2 := hBK.trans hB2
  obtain ⟨ao, cap, hI, hO, hao⟩ := TlbA.open hH2
  have hle := dropL_le h.a h.p L
  have hput : putL n L h = (if (dropL h.a h.p L).length = n then (dropL h.a h.p L).eraseIdx 0 else dropL h.a h.p L) ++ [h] := rfl
  generalize dropL h.a h.p L = M at *
  have c0 := hO.cell [] _ 0 (v := .int .i64 n) rfl
  have c1 := hO.cell [] _ 1 (v := .slice ao M.length cap) rfl
  have HP := hid hput
  have HI := hid hI
  clear CD hH2 hput
  have hNn0 : 1 ≤ n := hI.1
  have hn512 : n ≤ 512 := hI.2.1
  have hMn : M.length ≤ n := hI.2.2.1
  have hNn0 : 1 ≤ n := hI.1
  have hn512 : n ≤ 512 := hI.2.1
  have hMn : M.length ≤ n := hI.2.2.1
  have hNn0 : 1 ≤ n := hI.1
  have hn512 : n ≤ 512 := hI.2.1
  have hMn : M.length ≤ n := hI.2.2.1
  by_cases hf : M.length = n
  · have e1 : (M.length == n) = true := by rw [beq_iff_eq]; exact hf
    have e1' : ((M.length : Int) == (n : Int)) = true := by rw [beq_iff_eq]; omega
    have hM0 : 0 < M.length := by omega
    obtain ⟨g0, rfl⟩ := hao hM0
    have hHPN : putL n L h = M.eraseIdx 0 ++ [h] := by rw [HP.out, if_pos hf]
    have hMe : (M.eraseIdx 0).length = M.length - 1 := List.length_eraseIdx_of_lt hM0
    have HPN := hid hHPN
    have HME := hid hMe
    clear hI hf hHPN hMe
    go_wp2_with fail
    go_quiet (fail)
    have hO2' := hO.drewN nq
    have hB3' := below_drewN hB2 nq
    generalize w2.drewN nq = w4 at *
    clear hO hB2 c0 c1
    have c1 := hO2'.cell [] _ 1 (v := .slice (some ⟨g0, 0, none⟩) M.length cap) rfl
    have cd := Delete_calls g0 cap M 0 hM0 (by omega) w4 B _ (hO2'.front [_] _)
    simp only [Int.natCast_zero, Int.zero_add] at cd
    have CD := hid cd
    clear cd
    go_wp2_with fail
    refine CD.out.mono ?_
    rintro e w5 ⟨rfl, hH5, hB5⟩
    have hB5 := hB3'.trans hB5
    have c2 := hH5.cell [_] _ 1 (v := .slice (some ⟨g0, 0, none⟩) M.length cap) rfl
    have f2 := hH5.frozen [_] _ 1
    have hS := hH5.set [_] _ 1 (.slice (some ⟨g0, 0, none⟩) (M.length - 1) cap)
    have hBS := below_set hB5 [_] _ hH5 1 (.slice (some ⟨g0, 0, none⟩) (M.length - 1) cap)
    clear CD hH5 hB5 hO2' hB3' c1
    go_wp2_with fail
    have hO2 := hS.front [_] _
    generalize w5.setCell ⟨b, 1, none⟩ (.slice (some ⟨g0, 0, none⟩) (M.length - 1) cap) = w3 at *
    have hB3 := hBS
    have hNn : (M.eraseIdx 0).length + 1 ≤ n := by have := HME.out; omega
    have HPN2 := HPN
    rw [← HME.out] at hO2 ⊢
    clear hS hBS c2 f2
    generalize M.eraseIdx 0 = N at *
    obtain ⟨ao, hao⟩ : ∃ ao, ao = some (⟨g0, 0, none⟩ : Addr) := ⟨_, rfl⟩
    rw [← hao] at hO2 ⊢
    clear hao HPN2
    have c1 := hO2.cell [] _ 1 (v := .slice ao N.length cap) rfl
    have d0 := hO2.cell [_, _] _ 0 (v := .int .i64 h.a) rfl
    have d1 := hO2.cell [_, _] _ 1 (v := .int .i64 h.p) rfl
    have d2 := hO2.cell [_, _] _ 2 (v := .int .i64 h.f) rfl
    have d3 := hO2.cell [_, _] _ 3 (v := .bool h.w) rfl
    have d4 := hO2.cell [_, _] _ 4 (v := .bool h.u) rfl
    have d5 := hO2.cell [_, _] _ 5 (v := .bool h.x) rfl
    have d6 := hO2.cell [_, _] _ 6 (v := .bool h.d) rfl
    have hA := hO2.drew.newblk w3.heap.size 46 (hitC h).toArray rfl
    have hBA := below_new (Below.drew hB3) hO2.drew (.cells (hitC h).toArray 46)
    go_wp2_with fail
    have hA2 := hO2.newblk w3.heap.size 46 #[.int .i64 h.a, .int .i64 h.p, .int .i64 h.f, .bool h.w, .bool h.u, .bool h.x, .bool h.d] rfl
    have c1a := hA2.cell [_] _ 1 (v := .slice ao N.length cap) rfl
    go_region_law (first
        | (refine step_append_any [_, _] _ hA rfl (.tmp 32) (.tmp 34) 65 rfl i0 (.agg hitZ) 32 Try.underlying65 hi0 hz0 hz1 hz2 rfl (by decide) rfl ⟨w3.heap.size, 0, none⟩ 1 1 (hitC h) rfl rfl (blk_adds [] _ hA) (hitC_one h) (by decide) (by unfold maxLen; omega) (by omega) ?_; intro g2 cap2 w5 hH5 hB5; have e1 := hH5.cell [_] _ 1 (v := .slice ao N.length cap) rfl; have e1f := hH5.frozen [_] _ 1))
    all_goals (
      have hS := hH5.set [_] _ 1 (.slice (some ⟨g2, 0, none⟩) (N.length + 1) cap2)
      have hBS := below_set (hBA.trans hB5) [_] _ hH5 1 (.slice (some ⟨g2, 0, none⟩) (N.length + 1) cap2)
      have hlen : N.length + 1 = (putL n L h).length := by rw [HPN.out]; simp
      have hcel : hitsC N ++ hitC h = hitsC (putL n L h) := by rw [HPN.out, ← hitsC_app]; simp [hitsC]
      have HL := hid hlen
      have HC := hid hcel
      clear hA hA2 c1a hBA hO2 hB3 c1 d0 d1 d2 d3 d4 d5 d6 hlen hcel
      go_wp2_with fail
      go_end0
      have h2 : Has (w5.setCell ⟨b, 1, none⟩ (.slice (some ⟨g2, 0, none⟩) (N.length + 1) cap2)) B (blk b 79 #[.int .i64 n, .slice (some ⟨g2, 0, none⟩) (N.length + 1) cap2] :: row 46 7 (.slice (some ⟨g2, 0, none⟩) (N.length + 1) cap2) (putL n L h).length (hitsC (putL n L h)) :: X) := by
        rw [← HL.out, ← HC.out]
        exact ((hS.drop).front [_, _] _).drop
      exact ⟨rfl, TlbA.shut ⟨HI.out.1, HI.out.2.1, by rw [← HL.out]; exact hNn, putL_uniq HU.out⟩ h2, hBS⟩)
  · have e1 : (M.length == n) = false := by rw [beq_eq_false_iff_ne]; exact hf
    have e1' : ((M.length : Int) == (n : Int)) = false := by rw [beq_eq_false_iff_ne]; omega
    have hHPN : putL n L h = M ++ [h] := by rw [HP.out, if_neg hf]
    have hNn : M.length + 1 ≤ n := by omega
    have HPN := hid hHPN
    clear hI hf hHPN
    go_wp2_with fail
    go_quiet (fail)
    have hO2 := hO.drewN nq
    have hB3 := below_drewN hB2 nq
    generalize w2.drewN nq = w3 at *
    clear hO hB2 c0 c1
    obtain ⟨N, rfl⟩ : ∃ N : List HitS, N = M := ⟨_, rfl⟩
    have c1 := hO2.cell [] _ 1 (v := .slice ao N.length cap) rfl
    have d0 := hO2.cell [_, _] _ 0 (v := .int .i64 h.a) rfl
    have d1 := hO2.cell [_, _] _ 1 (v := .int .i64 h.p) rfl
    have d2 := hO2.cell [_, _] _ 2 (v := .int .i64 h.f) rfl
    have d3 := hO2.cell [_, _] _ 3 (v := .bool h.w) rfl
    have d4 := hO2.cell [_, _] _ 4 (v := .bool h.u) rfl
    have d5 := hO2.cell [_, _] _ 5 (v := .bool h.x) rfl
    have d6 := hO2.cell [_, _] _ 6 (v := .bool h.d) rfl
    have hA := hO2.drew.newblk w3.heap.size 46 (hitC h).toArray rfl
    have hBA := below_new (Below.drew hB3) hO2.drew (.cells (hitC h).toArray 46)
    go_wp2_with fail
    have hA2 := hO2.newblk w3.heap.size 46 #[.int .i64 h.a, .int .i64 h.p, .int .i64 h.f, .bool h.w, .bool h.u, .bool h.x, .bool h.d] rfl
    have c1a := hA2.cell [_] _ 1 (v := .slice ao N.length cap) rfl
    go_region_law (first
        | (refine step_append_any [_, _] _ hA rfl (.tmp 32) (.tmp 34) 65 rfl i0 (.agg hitZ) 32 Try.underlying65 hi0 hz0 hz1 hz2 rfl (by decide) rfl ⟨w3.heap.size, 0, none⟩ 1 1 (hitC h) rfl rfl (blk_adds [] _ hA) (hitC_one h) (by decide) (by unfold maxLen; omega) (by omega) ?_; intro g2 cap2 w5 hH5 hB5; have e1 := hH5.cell [_] _ 1 (v := .slice ao N.length cap) rfl; have e1f := hH5.frozen [_] _ 1))
    all_goals (
      have hS := hH5.set [_] _ 1 (.slice (some ⟨g2, 0, none⟩) (N.length + 1) cap2)
      have hBS := below_set (hBA.trans hB5) [_] _ hH5 1 (.slice (some ⟨g2, 0, none⟩) (N.length + 1) cap2)
      have hlen : N.length + 1 = (putL n L h).length := by rw [HPN.out]; simp
      have hcel : hitsC N ++ hitC h = hitsC (putL n L h) := by rw [HPN.out, ← hitsC_app]; simp [hitsC]
      have HL := hid hlen
      have HC := hid hcel
      clear hA hA2 c1a hBA hO2 hB3 c1 d0 d1 d2 d3 d4 d5 d6 hlen hcel
      go_wp2_with fail
      go_end0
      have h2 : Has (w5.setCell ⟨b, 1, none⟩ (.slice (some ⟨g2, 0, none⟩) (N.length + 1) cap2)) B (blk b 79 #[.int .i64 n, .slice (some ⟨g2, 0, none⟩) (N.length + 1) cap2] :: row 46 7 (.slice (some ⟨g2, 0, none⟩) (N.length + 1) cap2) (putL n L h).length (hitsC (putL n L h)) :: X) := by
        rw [← HL.out, ← HC.out]
        exact ((hS.drop).front [_, _] _).drop
      exact ⟨rfl, TlbA.shut ⟨HI.out.1, HI.out.2.1, by rw [← HL.out]; exact hNn, putL_uniq HU.out⟩ h2, hBS⟩)

end Go.Proofs.Ytlcdjdchcjnhfaa
