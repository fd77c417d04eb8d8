/-
  GmapBack: each guest's frame is that of its host's frame, and the list's; no two have one.
-/
import Derived.Test.YtljejmembogioaaGmapArgs0
namespace Go.Proofs.Ytljejmembogioaa
open Go.RowKit
set_option linter.unusedVariables false
set_option linter.unusedSimpArgs false

/-- Which of the host's frames the first k of the list are. -/
def seenL (l : List Int) (k : Nat) : List Bool := (List.range 256).map (fun z : Nat => (l.take k).contains (z : Int))
theorem seenL_length (l : List Int) (k : Nat) : (seenL l k).length = 256 := by simp [seenL]
theorem seenL_get (l : List Int) (k : Nat) {z : Nat} (h : z < 256) : (seenL l k)[z]? = some ((l.take k).contains (z : Int)) := by simp [seenL, h]
theorem seenL_zero (l : List Int) : seenL l 0 = falses 256 := by
  refine List.ext_getElem? fun z => ?_
  by_cases h : z < 256
  · rw [seenL_get l 0 h, falses_get h]; simp
  · rw [List.getElem?_eq_none (by rw [seenL_length]; omega), List.getElem?_eq_none (by rw [falses_length]; omega)]
theorem seenL_set (l : List Int) (k q : Nat) (h : l[k]? = some (q : Int)) : (seenL l k).set q true = seenL l (k + 1) := by
  refine List.ext_getElem? fun z => ?_
  by_cases hz : z < 256
  · rw [seenL_get l (k + 1) hz]
    have e : l.take (k + 1) = l.take k ++ [(q : Int)] := by rw [List.take_add_one]; simp [h]
    rw [e]
    by_cases hq : q = z
    · subst hq
      rw [List.getElem?_set_self (by rw [seenL_length]; exact hz)]
      simp
    · rw [List.getElem?_set_ne hq, seenL_get l k hz]
      have : (z : Int) ≠ q := by omega
      have e2 : ((l.take k ++ [(q : Int)]).contains (z : Int)) = (l.take k).contains (z : Int) := by
        rw [Bool.eq_iff_iff]
        simp [this]
      rw [e2]
  · rw [List.getElem?_eq_none (by simp [seenL_length]; omega), List.getElem?_eq_none (by rw [seenL_length]; omega)]
theorem not_seen {l : List Int} (h : l.Nodup) {k : Nat} {x : Int} (hx : l[k]? = some x) : (l.take k).contains x = false := by
  rw [← Bool.not_eq_true]
  intro hc
  have hm : x ∈ l.take k := by simpa using hc
  obtain ⟨i, hi⟩ := List.mem_iff_getElem?.1 hm
  have hik : i < k := by
    have := (List.getElem?_eq_some_iff.1 hi).1
    simp at this
    omega
  rw [List.getElem?_take_of_lt hik] at hi
  have := nodup_at h hi hx
  omega
theorem zero256 (w : World) : Sem.run Try.prog (zeroValue 32) w = .ok (.agg (boolsA (falses 256))) w := by kernel_rfl

set_option maxHeartbeats 4000000 in
set_option maxRecDepth 100000 in
theorem GmapBack_walk (a : Option Addr) (len cap : Nat) (l : List Int) (frames : Int) (w : World) (hA0 : IntsArg w a len cap l) (hl : ∀ x ∈ l, (Lit.int .i64 x).wf = true) (hf : (Lit.int .i64 frames).wf = true) :
    Calls Try.prog 4 #[.slice a len cap, .int .i64 frames] w fun e w' => e = .returned (.bool true) ∧ Below w.heap.size w w' := by
  obtain ⟨hA, hnil⟩ := hA0
  obtain rfl : l.length = len := by have := hA.lc; simpa using this
  clear hnil
  have hH0 : Has w w.heap.size [] := Has.nil (Nat.le_refl _)
  have HA := hid hA
  have HL := hid hl
  clear hA hl
  go_enter Try.func4, Try.ntmps4
  go_wp2_with fail
  refine (head_true w _ [] hH0).mono ?_
  rintro e w1 ⟨_, rfl, hH1, hB1⟩
  go_wp2_with fail
  refine (New_calls a cap l frames _ (HA.out.src HL.out hB1) hH1).mono ?_
  rintro e w2 (⟨hn, rfl, hH2, hB2⟩ | ⟨hg, b, rfl, hH2, hB2⟩)
  · clear hn
    go_wp2_with fail
    go_ret
    exact ⟨rfl, hB1.trans hB2⟩
  · obtain ⟨g1, g2, g3, g4, g5, g6⟩ := hg
    have HG5 := hid g5
    have HG6 := hid g6
    have hB2 := hB1.trans hB2
    have e1 : decide (2000 < (l.length : Int)) = false := by rw [decide_eq_false_iff_not]; omega
    have e1 : decide (2000 < l.length) = false := by rw [decide_eq_false_iff_not]; omega
    obtain ⟨gb, o, rfl, hgb, hc⟩ := HA.out.mem (by omega)
    have HC := hid (fun (W : World) (hb : Below w.heap.size w W) (k : Nat) (x : Int) (hk : l[k]? = some x) => (HA.out.int_at hb rfl hk : W.cell? ⟨gb, o + k, none⟩ = some (.int .i64 x)))
    clear g5 g6 hB1 hH1 hH0 hgb hc
    have hzero := zero256
    go_wp2_with fail
    have hN := hH2.newblk w2.heap.size 32 (boolsA (falses 256)) rfl
    have hBN := below_new hB2 hH2 (.cells (boolsA (falses 256)) 32)
    generalize hsb : w2.heap.size = sb at *
    generalize w2.alloc _ = wa at *
    clear hH2 hB2 hzero hsb
    rw [← seenL_zero l] at hN
    go_loopw [8, 9, 10, 11, 12] (fun i _ _ _ _ wr => ∃ (k : Nat), k ≤ l.length ∧ i = .int .i64 k ∧ Has wr w.heap.size [blk sb 32 (boolsA (seenL l k)), GmapA b l] ∧ Below w.heap.size w wr) (fun i _ _ _ _ _ => l.length - (intOf i).toNat)
    case atStart => exact ⟨0, by omega, rfl, hN, hBN⟩
    case round =>
      obtain ⟨k, hk, rfl, hHr, hBr⟩ := hrel
      clear hN hBN
      by_cases hlt : k < l.length
      · obtain ⟨x, hx⟩ : ∃ x, l[k]? = some x := ⟨l[k], List.getElem?_eq_getElem hlt⟩
        have hr := HG5.out x (List.mem_of_getElem? hx)
        obtain ⟨q, rfl⟩ : ∃ q : Nat, x = q := ⟨x.toNat, by omega⟩
        have hq1 : q < 256 := by omega
        have hq2 : (q : Int) < frames := hr.2
        have cx := HC.out _ hBr k q hx
        have er : hostR l k = .tuple #[.int .i64 q, .bool true] := by
          have hn : 0 ≤ (k : Int) ∧ (k : Int) < l.length := by omega
          simp [hostR, hn, List.getD, hx] <;> omega
        have r1 : guestR l q = .tuple #[.int .i64 (k : Int), .bool true] := by
          have h := (gmG_at HG6.out l.length (Nat.le_refl _) q k).2 ⟨k, hlt, rfl, hx⟩
          simp [guestR, h]
        have q1 := Host_calls b l k _ _ _ (hHr.front [_] _)
        rw [er] at q1
        have cs : wr.cell? ⟨sb, q, none⟩ = some (.bool false) := by
          have := hHr.cell [] _ q (boolsA_get (seenL_get l k hq1))
          rwa [not_seen HG6.out hx] at this
        have fs := hHr.frozen [] _ q
        have hS := hHr.set [] _ q (.bool true)
        rw [boolsA_set, seenL_set l k q hx] at hS
        have hBS := below_set hBr [] _ hHr q (.bool true)
        have q2 := Guest_calls b l q (HL.out _ (List.mem_of_getElem? hx)) _ _ _ (hS.front [_] _)
        rw [r1] at q2
        have Q1 := hid q1
        have Q2 := hid q2
        clear q1 q2 er r1 hx hr
        go_wp2_with fail
        refine Q1.out.mono ?_
        rintro e w6 ⟨rfl, rfl⟩
        go_wp2_with fail
        refine Q2.out.mono ?_
        rintro e w6 ⟨rfl, rfl⟩
        go_wp2_with fail
        go_roundw
        case rel => exact ⟨k + 1, by omega, by go_num, hS, hBS⟩
        case measure => simp [intOf] <;> omega
      · obtain rfl : k = l.length := by omega
        go_wp2_with fail
        obtain ⟨wo, rfl⟩ : ∃ wo : World, wo = wr := ⟨_, rfl⟩
        go_loopw [13, 14, 15] (fun i _ _ wr => ∃ (k : Nat), k ≤ 256 ∧ i = .int .i64 k ∧ Has wr w.heap.size [blk sb 32 (boolsA (seenL l l.length)), GmapA b l] ∧ Below w.heap.size w wr) (fun i _ _ _ => 256 - (intOf i).toNat)
        case atStart => exact ⟨0, by omega, rfl, hHr, hBr⟩
        case round =>
          clear hHr hBr
          obtain ⟨k, hk, rfl, hHr, hBr⟩ := hrel
          by_cases hlt : k < 256
          · have cs := hHr.cell [] _ k (boolsA_get (seenL_get l l.length hlt))
            have fs := hHr.frozen [] _ k
            have hw : (Lit.int .i64 (k : Int)).wf = true := WalkArith.wf_i64 (by omega)
            have q2 := Guest_calls b l k hw _ _ _ (hHr.front [_] _)
            obtain ⟨c, r1⟩ : ∃ c, guestR l k = .tuple #[.int .i64 c, .bool ((l.take l.length).contains (k : Int))] := by
              refine ⟨(gmG l l.length k).getD 0, ?_⟩
              have e : (gmG l l.length (k : Int)).isSome = (l.take l.length).contains (k : Int) := by
                rw [Bool.eq_iff_iff, gmG_some l l.length (Nat.le_refl _)]
                simp only [List.take_length, List.contains_iff_mem]
                constructor
                · rintro ⟨i, _, hi⟩; exact List.mem_of_getElem? hi
                · intro h
                  obtain ⟨i, hi⟩ := List.mem_iff_getElem?.1 h
                  exact ⟨i, (List.getElem?_eq_some_iff.1 hi).1, hi⟩
              unfold guestR
              rw [e]
            rw [r1] at q2
            generalize (l.take l.length).contains (k : Int) = s at *
            have Q2 := hid q2
            clear q2 r1
            go_wp2_with fail
            refine Q2.out.mono ?_
            rintro e w6 ⟨rfl, rfl⟩
            cases s with
            | true =>
              go_wp2_with fail
              go_roundw
              case rel => exact ⟨k + 1, by omega, by go_num, hHr, hBr⟩
              case measure => simp [intOf] <;> omega
            | false =>
              go_wp2_with fail
              go_roundw
              case rel => exact ⟨k + 1, by omega, by go_num, hHr, hBr⟩
              case measure => simp [intOf] <;> omega
          · obtain rfl : k = 256 := by omega
            go_wp2_with fail
            refine (Many_calls b l _ _ _ (hHr.front [_] _)).mono ?_
            rintro e w6 ⟨rfl, rfl⟩
            go_wp2_with fail
            go_ret
            exact ⟨rfl, hBr⟩

end Go.Proofs.Ytljejmembogioaa
