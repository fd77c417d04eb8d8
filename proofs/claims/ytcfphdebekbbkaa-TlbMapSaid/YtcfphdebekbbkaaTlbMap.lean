/-
  TlbMap: what is got of a page was put last, and not dropped, flushed or picked since; if nothing goes for others it is there.
-/
import Derived.Test.YtcfphdebekbbkaaTlbArgs2
import Derived.Deep.CutBlock
import Derived.Deep.DeepCutAuto
import Derived.Deep.CutBlock
import Derived.Deep.DeepCutAuto
namespace Go.Proofs.Ytcfphdebekbbkaa
open Go.RowKit
set_option linter.unusedVariables false
set_option linter.unusedSimpArgs false

theorem top_len {l : List TOp} {w : World} {a : Option Addr} {len : Nat} (hA : ArgRow w 9 a len (l.flatMap topC)) : l.length = len := by
  have h1 := hA.lc
  rw [flat_length topC 9 (fun _ => rfl)] at h1
  omega
theorem top_adds {l : List TOp} {w w' : World} {a : Option Addr} {len : Nat} (hA : ArgRow w 9 a len (l.flatMap topC)) (hb : Below w.heap.size w w') {b o : Nat} (ha : a = some ⟨b, o, none⟩) {k : Nat} {x : TOp} (hk : l[k]? = some x) : ∀ j u, (topC x)[j]? = some u → w'.cell? ((⟨b, o + k * 9, none⟩ : Addr).add j) = some u := by
  intro j u hj
  have e : (⟨b, o + k * 9, none⟩ : Addr).add j = ⟨b, o + k * 9 + j, none⟩ := by unfold Addr.add; split <;> simp_all
  rw [e]
  obtain ⟨h1, h2, h3⟩ := hA
  have hl : l.length = len := by rw [flat_length topC 9 (fun _ => rfl)] at h1; omega
  have := (List.getElem?_eq_some_iff.1 hk).1
  obtain ⟨b', o', e', hlt, hc⟩ := h3 (by omega)
  rw [ha] at e'
  injection e' with e'
  injection e' with e1 e2 e3
  subst e1 e2
  exact ArgRow.elem (f := topC) (size := 9) (fun _ => rfl) hlt hc hb k j _ hk hj
theorem top_size {x : TOp} : (Try.prog.info? 46).map (fun i => i.size) = some (topC x).length := by
  rw [show (topC x).length = 9 from rfl]; kernel_rfl
theorem top_size' {x : TOp} : (Try.prog.info? 46).map (fun i => i.size) = some (topC x).toArray.size := by
  rw [show (topC x).toArray.size = 9 from rfl]; kernel_rfl
theorem top_one (x : TOp) : ∀ u ∈ (topC x).toArray.toList, u.oneCell' = true := by simp [topC, Value.oneCell']
def topZ : Array Value := #[.int .i64 0, .int .i64 0, .int .i64 0, .int .i64 0, .bool false, .bool false, .bool false, .bool false, .int .i64 0]
/-- What is known of the page, in a word. -/
theorem getV_some {L : List HitS} {a p : Int} {h : HitS} (hf : L.find? (keyB a p) = some h) : getV L a p = .tuple #[.agg (hitC h).toArray, .bool true] := by simp [getV, hf]
theorem getV_none {L : List HitS} {a p : Int} (hf : L.find? (keyB a p) = none) : getV L a p = .tuple #[.agg (hitC hit0).toArray, .bool false] := by simp [getV, hf]

theorem part_adds {w : World} {B b : Nat} {T : TypeId} {x : TOp} (L1 L2 : List Asr) (hH : Has w B (L1 ++ blk b T (topC x).toArray :: L2)) : ∀ j u, (hitC x.H)[j]? = some u → w.cell? ((⟨b, 1, none⟩ : Addr).add j) = some u := by
  intro j u hj
  have e : (⟨b, 1, none⟩ : Addr).add j = ⟨b, 1 + j, none⟩ := by unfold Addr.add; split <;> simp_all
  rw [e]
  have hj7 : j < 7 := by have := (List.getElem?_eq_some_iff.1 hj).1; rw [hitC_length] at this; exact this
  refine hH.cell L1 L2 (1 + j) ?_
  match j, hj7 with
  | 0, _ => exact hj
  | 1, _ => exact hj
  | 2, _ => exact hj
  | 3, _ => exact hj
  | 4, _ => exact hj
  | 5, _ => exact hj
  | 6, _ => exact hj
/-- What is known of the page. -/
def MapI (asid page : Int) (k : Nat) (L : List HitS) (wt : HitS) (th : Bool) : Prop :=
  th = (L.find? (keyB asid page)).isSome ∧ (∀ h, L.find? (keyB asid page) = some h → wt = h) ∧ L.length ≤ k
theorem MapI.drop {asid page : Int} {k : Nat} {L : List HitS} {wt : HitS} {th : Bool} (h : MapI asid page k L wt th) (a p : Int) :
    (decide (a = asid ∧ p = page) = true → L.any (keyB a p) = th) ∧ MapI asid page (k + 1) (dropL a p L) wt (th && !decide (a = asid ∧ p = page)) := by
  obtain ⟨h1, h2, h3⟩ := h
  have hle := dropL_le a p L
  refine ⟨fun e => ?_, ?_, fun g hg => ?_, by omega⟩
  · rw [decide_eq_true_eq] at e
    obtain ⟨rfl, rfl⟩ := e
    rw [any_find, h1]
  · rw [find_drop]
    by_cases e : a = asid ∧ p = page
    · rw [if_pos e]; simp [e]
    · rw [if_neg e, ← h1]; simp [e]
  · rw [find_drop] at hg
    by_cases e : a = asid ∧ p = page
    · rw [if_pos e] at hg; cases hg
    · rw [if_neg e] at hg; exact h2 g hg
theorem MapI.keep {asid page : Int} {k : Nat} {L : List HitS} {wt : HitS} {th : Bool} (h : MapI asid page k L wt th) (a : Int) :
    MapI asid page (k + 1) (keepF a L) wt (th && !decide (a = asid)) := by
  obtain ⟨h1, h2, h3⟩ := h
  have hle := keepF_len a L
  refine ⟨?_, fun g hg => ?_, by omega⟩
  · rw [find_keep]
    by_cases e : a = asid
    · rw [if_pos e]; simp [e]
    · rw [if_neg e, ← h1]; simp [e]
  · rw [find_keep] at hg
    by_cases e : a = asid
    · rw [if_pos e] at hg; cases hg
    · rw [if_neg e] at hg; exact h2 g hg
theorem MapI.all {asid page : Int} {k : Nat} {wt : HitS} : MapI asid page (k + 1) [] wt false :=
  ⟨rfl, fun g hg => by simp at hg, by simp⟩
theorem MapI.put {asid page : Int} {k : Nat} {L : List HitS} {wt : HitS} {th : Bool} (h : MapI asid page k L wt th) (hk : k < 512) (x : HitS) :
    MapI asid page (k + 1) (putL 512 L x) (if decide (x.a = asid ∧ x.p = page) then x else wt) (th || decide (x.a = asid ∧ x.p = page)) := by
  obtain ⟨h1, h2, h3⟩ := h
  have hle := putL_len_le (n := 512) (L := L) (h := x)
  refine ⟨?_, fun g hg => ?_, by omega⟩
  · rw [find_put (by omega)]
    by_cases e : x.a = asid ∧ x.p = page
    · rw [if_pos e]; simp [e]
    · rw [if_neg e, ← h1]; simp [e]
  · rw [find_put (by omega)] at hg
    by_cases e : x.a = asid ∧ x.p = page
    · rw [if_pos e] at hg; injection hg with hg; rw [if_pos (decide_eq_true e)]; exact hg
    · rw [if_neg e] at hg; simp [e, h2 g hg]
theorem MapI.succ {asid page : Int} {k : Nat} {L : List HitS} {wt : HitS} {th : Bool} (h : MapI asid page k L wt th) : MapI asid page (k + 1) L wt th :=
  ⟨h.1, h.2.1, by have := h.2.2; omega⟩
theorem hit_neq' (g h : HitS) {r : Bool} (hr : (!decide (g = h)) = r) : ∀ W, Sem.run Try.prog (binOp .neq 30 (.agg #[.int .i64 g.a, .int .i64 g.p, .int .i64 g.f, .bool g.w, .bool g.u, .bool g.x, .bool g.d]) (.agg #[.int .i64 h.a, .int .i64 h.p, .int .i64 h.f, .bool h.w, .bool h.u, .bool h.x, .bool h.d])) W = .ok (.bool r) W := fun W => by
  rw [← hr]
  exact hit_neq g h W
theorem hit_neq0 : ∀ W, Sem.run Try.prog (binOp .neq 30 (.agg #[.int .i64 0, .int .i64 0, .int .i64 0, .bool false, .bool false, .bool false, .bool false]) (.agg #[.int .i64 0, .int .i64 0, .int .i64 0, .bool false, .bool false, .bool false, .bool false])) W = .ok (.bool false) W := fun W => by
  have := hit_neq hit0 hit0 W
  rw [show (!decide (hit0 = hit0)) = false from by simp] at this
  exact this

set_option maxHeartbeats 1000000 in
set_option maxRecDepth 100000 in
theorem TlbMap_walk (aa : Option Addr) (len cap : Nat) (l : List TOp) (asid page : Int) (w : World) (hA : ArgRow w 9 aa len (l.flatMap topC)) (hl : ∀ x ∈ l, TOk x) (hs : (Lit.int .i64 asid).wf = true) (hp : (Lit.int .i64 page).wf = true) :
    Calls Try.prog 8 #[.slice aa len cap, .int .i64 asid, .int .i64 page] w fun e w' => e = .returned (.bool true) ∧ Below w.heap.size w w' := by
  obtain rfl := top_len hA
  have hH0 : Has w w.heap.size [] := Has.nil (Nat.le_refl _)
  have HA := hid hA
  clear hA hl hs hp
  go_enter Try.func8, Try.ntmps8
  go_wp2_with fail
  refine (head_true w _ [] hH0).mono ?_
  rintro e w1 ⟨_, rfl, hH1, hB1⟩
  go_wp2_with fail
  refine (TlbNew_yes 512 (by decide) (by decide) w1 _ _ hH1).mono ?_
  rintro e w2 ⟨t, rfl, hH2, hB2⟩
  have hB2 := hB1.trans hB2
  clear hH1 hB1 hH0
  by_cases hbig : 300 < l.length
  · have e1 : decide (300 < l.length) = true := by rw [decide_eq_true_eq]; omega
    have e2 : decide (300 < (l.length : Int)) = true := by rw [decide_eq_true_eq]; omega
    go_wp2_with fail
    go_ret
    exact ⟨rfl, hB2⟩
  · have e1 : decide (300 < l.length) = false := by rw [decide_eq_false_iff_not]; omega
    have e2 : decide (300 < (l.length : Int)) = false := by rw [decide_eq_false_iff_not]; omega
    have hW := (hH2.newblk w2.heap.size 30 (hitC hit0).toArray rfl).front [_] _
    have hBW := below_new hB2 hH2 (.cells (hitC hit0).toArray 30)
    go_wp2_with fail
    generalize w2.heap.size = wb at *
    go_loopg [10, 11] l.length (fun g there i wr => ∃ (k : Nat) (L : List HitS) (wt : HitS) (th : Bool), g + k = l.length ∧ i = .int .i64 k ∧ there = .bool th ∧ MapI asid page k L wt th ∧ Has wr w.heap.size [TlbA t 512 L, blk wb 30 (hitC wt).toArray] ∧ Below w.heap.size w wr)
    case atStart => exact ⟨0, [], hit0, false, by omega, rfl, rfl, ⟨rfl, fun h hh => by simp at hh, by simp⟩, hW, hBW⟩
    case round =>
      obtain ⟨k, L, wt, th, hk, rfl, rfl, hI, hHr, hBr⟩ := hrel
      clear hH2 hB2 hW hBW
      by_cases hlt : k < l.length
      · obtain ⟨x, hx⟩ : ∃ x, l[k]? = some x := ⟨_, List.getElem?_eq_getElem hlt⟩
        obtain ⟨b, o, rfl, _, _⟩ := HA.out.mem (by omega)
        have P1 := hid (top_adds HA.out hBr rfl hx)
        have HI := hid hI
        obtain ⟨ob, hob⟩ : ∃ ob, wr.heap.size = ob := ⟨_, rfl⟩
        have tok1 : True := trivial
        have tok2 : True := trivial
        have hk512 : k < 512 := by omega
        have HK := hid hk
        clear hx hI hk
        go_upto_region 11 with (first
          | (have _t := tok1; refine wpList_load_at 46 (.tmp 38) rfl rfl ⟨b, o + k * 9, none⟩ rfl _ (topC x) P1.out Try.underlying46 rfl top_size ?_; clear _t tok1)
          | (have _t := tok2; refine wpList_store_all [] _ (hHr.newblk ob 46 topZ hob) 46 (.tmp 12) (.tmp 39) rfl rfl rfl _ rfl top_size' rfl (top_one x) ?_; clear _t tok2; intro w4 hH4 hB4' hz4; clear hz4; have hB4 := hBr.trans ((below_new (Below.refl _ _) hHr _).trans hB4'); clear hB4' hHr hBr; have k0 := hH4.cell [] _ 0 (v := .int .i64 x.What) rfl; have k1 := hH4.cell [] _ 1 (v := .int .i64 x.H.a) rfl; have k2 := hH4.cell [] _ 2 (v := .int .i64 x.H.p) rfl))
        clear hob
        simp only [Act.put]
        go_cut [13] (fun s13 wx => s13 = .bool (decide (x.H.a = asid ∧ x.H.p = page)) ∧ w4 = wx)
        case first =>
          by_cases hea : x.H.a = asid
          · have e3 : (x.H.a == asid) = true := by rw [beq_iff_eq]; exact hea
            by_cases hep : x.H.p = page
            · have e4 : (x.H.p == page) = true := by rw [beq_iff_eq]; exact hep
              have HD := hid (show decide (x.H.a = asid ∧ x.H.p = page) = true by simp [hea, hep])
              clear hea hep
              go_wp2_with fail
              go_meet
              exact ⟨by rw [HD.out], rfl⟩
            · have e4 : (x.H.p == page) = false := by rw [beq_eq_false_iff_ne]; exact hep
              have HD := hid (show decide (x.H.a = asid ∧ x.H.p = page) = false by simp [hep])
              clear hea hep
              go_wp2_with fail
              go_meet
              exact ⟨by rw [HD.out], rfl⟩
          · have e3 : (x.H.a == asid) = false := by rw [beq_eq_false_iff_ne]; exact hea
            have HD := hid (show decide (x.H.a = asid ∧ x.H.p = page) = false by simp [hea])
            clear hea
            go_wp2_with fail
            go_meet
            exact ⟨by rw [HD.out], rfl⟩
        case rest =>
          obtain ⟨rfl, rfl⟩ := hcut
          have hdr := HI.out.drop x.H.a x.H.p
          have hkp := HI.out.keep x.H.a
          have hpt := HI.out.put hk512 x.H
          obtain ⟨mm, hmm⟩ : ∃ mm, decide (x.H.a = asid ∧ x.H.p = page) = mm := ⟨_, rfl⟩
          rw [hmm] at hdr hpt ⊢
          have HD := hid hdr
          have HKP := hid hkp
          have HPT := hid hpt
          clear hdr hkp hpt hmm
          go_upto_block 2 with fail
          go_cut [10] (fun s10 wx => ∃ (L' : List HitS) (wt' : HitS) (th' : Bool), s10 = .bool th' ∧ MapI asid page (k + 1) L' wt' th' ∧ Has wx w.heap.size [TlbA t 512 L', blk wb 30 (hitC wt').toArray] ∧ Below w.heap.size w wx)
          case first =>
            by_cases h3 : x.What = 3
            · have e3 : (x.What == 3) = true := by rw [beq_iff_eq]; exact h3
              clear h3
              go_wp2_with fail
              refine (Drop_calls t 512 L x.H.a x.H.p w4 _ _ (hH4.front [_] _)).mono ?_
              rintro e w5 ⟨rfl, hH5, hB5'⟩
              have hB5 := hB4.trans hB5'
              clear hB5' hH4 hB4
              obtain ⟨an, han⟩ : ∃ an, L.any (keyB x.H.a x.H.p) = an := ⟨_, rfl⟩
              rw [han]
              have HAN := hid han
              clear han
              cases mm with
              | true =>
                obtain rfl : an = th := by rw [← HAN.out]; exact HD.out.1 rfl
                cases an
                all_goals (
                  go_wp2_with fail
                  go_meet
                  exact ⟨_, _, _, rfl, HD.out.2, (hH5.front [_] _).drop, hB5⟩)
              | false =>
                cases an <;> cases th
                all_goals (
                  go_wp2_with fail
                  go_meet
                  exact ⟨_, _, _, rfl, HD.out.2, (hH5.front [_] _).drop, hB5⟩)
            · have e3 : (x.What == 3) = false := by rw [beq_eq_false_iff_ne]; exact h3
              by_cases h4 : x.What = 4
              · have e4 : (x.What == 4) = true := by rw [beq_iff_eq]; exact h4
                clear h3 h4
                go_wp2_with fail
                refine (Flush_calls t 512 L x.H.a w4 _ _ (hH4.front [_] _)).mono ?_
                rintro e w5 ⟨rfl, hH5, hB5'⟩
                have hB5 := hB4.trans hB5'
                have k1 := hH5.cell [_] _ 1 (v := .int .i64 x.H.a) rfl
                clear hB5' hH4 hB4
                by_cases hea : x.H.a = asid
                · have e5 : (x.H.a != asid) = false := by simp [hea]
                  have e6 : (x.H.a == asid) = true := by rw [beq_iff_eq]; exact hea
                  have HDD := hid (show decide (x.H.a = asid) = true by rw [decide_eq_true_eq]; exact hea)
                  clear hea
                  cases th
                  all_goals (
                    go_wp2_with fail
                    go_meet
                    refine ⟨_, _, _, rfl, ?_, (hH5.front [_] _).drop, hB5⟩
                    have := HKP.out
                    rw [HDD.out] at this
                    exact this)
                · have e5 : (x.H.a != asid) = true := by simp [hea]
                  have e6 : (x.H.a == asid) = false := by rw [beq_eq_false_iff_ne]; exact hea
                  have HDD := hid (show decide (x.H.a = asid) = false by rw [decide_eq_false_iff_not]; exact hea)
                  clear hea
                  cases th
                  all_goals (
                    go_wp2_with fail
                    go_meet
                    refine ⟨_, _, _, rfl, ?_, (hH5.front [_] _).drop, hB5⟩
                    have := HKP.out
                    rw [HDD.out] at this
                    exact this)
              · have e4 : (x.What == 4) = false := by rw [beq_eq_false_iff_ne]; exact h4
                by_cases h5 : x.What = 5
                · have e5 : (x.What == 5) = true := by rw [beq_iff_eq]; exact h5
                  clear h3 h4 h5
                  go_wp2_with fail
                  refine (All_calls t 512 L w4 _ _ (hH4.front [_] _)).mono ?_
                  rintro e w5 ⟨rfl, hH5, hB5'⟩
                  have hB5 := hB4.trans hB5'
                  clear hB5' hH4 hB4
                  go_wp2_with fail
                  go_meet
                  exact ⟨_, _, _, rfl, MapI.all, (hH5.front [_] _).drop, hB5⟩
                · have e5 : (x.What == 5) = false := by rw [beq_eq_false_iff_ne]; exact h5
                  clear h3 h4 h5
                  by_cases hw : x.What = 0 ∨ x.What = 1 ∨ x.What = 2
                  · have hz0 : x.What = 0 → (x.What == 0) = true := by intro h; rw [beq_iff_eq]; exact h
                    rcases hw with h0 | h0 | h0
                    · have e6 : (x.What == 0) = true := by rw [beq_iff_eq]; exact h0
                      clear h0 hz0
                      have P2 := hid (part_adds [] _ hH4)
                      go_wp2_with (refine wpList_load_at 30 (.tmp 98) rfl rfl ⟨ob, 1, none⟩ rfl _ (hitC x.H) P2.out Try.underlying30 rfl hit_size ?_)
                      refine (Put_calls t 512 L x.H w4 _ _ (hH4.front [_] _)).mono ?_
                      rintro e w5 ⟨rfl, hH5, hB5'⟩
                      have hB5 := hB4.trans hB5'
                      clear hB5' hH4 hB4
                      cases mm with
                      | true =>
                        have P3 := hid (part_adds [_] _ hH5)
                        have hl7 : (hitC x.H).length = 7 := rfl
                        go_wp2_with (first
                          | (refine wpList_load_at 30 (.tmp 102) rfl rfl ⟨ob, 1, none⟩ rfl _ (hitC x.H) P3.out Try.underlying30 rfl hit_size ?_)
                          | (refine wpList_store_all [_, _] _ hH5 30 (.tmp 9) (.tmp 103) rfl rfl rfl _ rfl hit_size' rfl (hitC_one _) ?_; intro w6 hH6 hB6 hz6; clear hz6))
                        go_meet
                        exact ⟨_, _, _, rfl, by have := HPT.out; rw [Bool.or_true] at this; exact this, (hH6.front [_] _).drop, hB5.trans hB6⟩
                      | false =>
                        go_wp2_with fail
                        go_meet
                        exact ⟨_, _, _, rfl, by have := HPT.out; rw [Bool.or_false] at this; exact this, (hH5.front [_] _).drop, hB5⟩
                    · have e6 : (x.What == 0) = false := by rw [beq_eq_false_iff_ne]; omega
                      have e7 : (x.What == 1) = true := by rw [beq_iff_eq]; exact h0
                      clear h0 hz0
                      have P2 := hid (part_adds [] _ hH4)
                      go_wp2_with (refine wpList_load_at 30 (.tmp 98) rfl rfl ⟨ob, 1, none⟩ rfl _ (hitC x.H) P2.out Try.underlying30 rfl hit_size ?_)
                      refine (Put_calls t 512 L x.H w4 _ _ (hH4.front [_] _)).mono ?_
                      rintro e w5 ⟨rfl, hH5, hB5'⟩
                      have hB5 := hB4.trans hB5'
                      clear hB5' hH4 hB4
                      cases mm with
                      | true =>
                        have P3 := hid (part_adds [_] _ hH5)
                        have hl7 : (hitC x.H).length = 7 := rfl
                        go_wp2_with (first
                          | (refine wpList_load_at 30 (.tmp 102) rfl rfl ⟨ob, 1, none⟩ rfl _ (hitC x.H) P3.out Try.underlying30 rfl hit_size ?_)
                          | (refine wpList_store_all [_, _] _ hH5 30 (.tmp 9) (.tmp 103) rfl rfl rfl _ rfl hit_size' rfl (hitC_one _) ?_; intro w6 hH6 hB6 hz6; clear hz6))
                        go_meet
                        exact ⟨_, _, _, rfl, by have := HPT.out; rw [Bool.or_true] at this; exact this, (hH6.front [_] _).drop, hB5.trans hB6⟩
                      | false =>
                        go_wp2_with fail
                        go_meet
                        exact ⟨_, _, _, rfl, by have := HPT.out; rw [Bool.or_false] at this; exact this, (hH5.front [_] _).drop, hB5⟩
                    · have e6 : (x.What == 0) = false := by rw [beq_eq_false_iff_ne]; omega
                      have e7 : (x.What == 1) = false := by rw [beq_eq_false_iff_ne]; omega
                      have e8 : (x.What == 2) = true := by rw [beq_iff_eq]; exact h0
                      clear h0 hz0
                      have P2 := hid (part_adds [] _ hH4)
                      go_wp2_with (refine wpList_load_at 30 (.tmp 98) rfl rfl ⟨ob, 1, none⟩ rfl _ (hitC x.H) P2.out Try.underlying30 rfl hit_size ?_)
                      refine (Put_calls t 512 L x.H w4 _ _ (hH4.front [_] _)).mono ?_
                      rintro e w5 ⟨rfl, hH5, hB5'⟩
                      have hB5 := hB4.trans hB5'
                      clear hB5' hH4 hB4
                      cases mm with
                      | true =>
                        have P3 := hid (part_adds [_] _ hH5)
                        have hl7 : (hitC x.H).length = 7 := rfl
                        go_wp2_with (first
                          | (refine wpList_load_at 30 (.tmp 102) rfl rfl ⟨ob, 1, none⟩ rfl _ (hitC x.H) P3.out Try.underlying30 rfl hit_size ?_)
                          | (refine wpList_store_all [_, _] _ hH5 30 (.tmp 9) (.tmp 103) rfl rfl rfl _ rfl hit_size' rfl (hitC_one _) ?_; intro w6 hH6 hB6 hz6; clear hz6))
                        go_meet
                        exact ⟨_, _, _, rfl, by have := HPT.out; rw [Bool.or_true] at this; exact this, (hH6.front [_] _).drop, hB5.trans hB6⟩
                      | false =>
                        go_wp2_with fail
                        go_meet
                        exact ⟨_, _, _, rfl, by have := HPT.out; rw [Bool.or_false] at this; exact this, (hH5.front [_] _).drop, hB5⟩
                  · have e6 : (x.What == 0) = false := by rw [beq_eq_false_iff_ne]; omega
                    have e7 : (x.What == 1) = false := by rw [beq_eq_false_iff_ne]; omega
                    have e8 : (x.What == 2) = false := by rw [beq_eq_false_iff_ne]; omega
                    clear hw
                    go_wp2_with fail
                    go_meet
                    exact ⟨_, _, _, rfl, HI.out.succ, hH4.drop, hB4⟩
          case rest =>
            obtain ⟨L', wt', th', rfl, hI2, hH5, hB5⟩ := hcut
            clear hH4 hB4 k0 k1 k2
            cases th' with
            | true =>
              obtain ⟨h, hh⟩ := Option.isSome_iff_exists.1 hI2.1.symm
              obtain rfl := hI2.2.1 h hh
              have cg := Get_calls t 512 L' asid page wc _ _ hH5
              rw [getV_some hh] at cg
              have CG := hid cg
              have HI2 := hid hI2
              have hne : ∀ W, Sem.run Try.prog (binOp .neq 30 (.agg (hitC wt').toArray) (.agg (hitC wt').toArray)) W = .ok (.bool false) W := fun W => by have := hit_neq wt' wt' W; rw [show (!decide (wt' = wt')) = false from by simp] at this; exact this
              clear hh hI2 cg
              go_wp2_with fail
              refine CG.out.mono ?_
              rintro e w6 ⟨rfl, hH6, hB6⟩
              have hB6 := hB5.trans hB6
              clear hH5 hB5 CG
              obtain ⟨xb, hxb⟩ : ∃ xb, w6.heap.size = xb := ⟨_, rfl⟩
              have hl7 : (hitC wt').length = 7 := rfl
              have tok3 : True := trivial
              go_wp2_with (first
                | (have _t := tok3; refine wpList_store_all [] _ (hH6.newblk xb 30 hitZ hxb) 30 (.tmp 14) (.tmp 109) rfl rfl rfl _ rfl hit_size' rfl (hitC_one _) ?_; clear _t tok3; intro w7 hH7 hB7' hz7; clear hz7; have hB7 := hB6.trans ((below_new (Below.refl _ _) hH6 _).trans hB7'); clear hB7' hH6 hB6)
                | (refine wpList_load_blk [] _ hH7 30 (.tmp 14) rfl rfl rfl _ Try.underlying30 rfl hit_size' ?_)
                | (refine wpList_load_blk [_, _] _ hH7 30 (.tmp 9) rfl rfl rfl _ Try.underlying30 rfl hit_size' ?_))
              go_roundg (gk - 1)
              case measure => have := HK.out; omega
              case rel => exact ⟨k + 1, _, _, _, by have := HK.out; omega, by go_num, rfl, HI2.out, hH7.drop, hB7⟩
            | false =>
              have hh : L'.find? (keyB asid page) = none := by
                have := hI2.1
                cases hf : L'.find? (keyB asid page) with
                | none => rfl
                | some h => rw [hf] at this; cases this
              have cg := Get_calls t 512 L' asid page wc _ _ hH5
              rw [getV_none hh] at cg
              have CG := hid cg
              have HI2 := hid hI2
              have hne : ∀ W, Sem.run Try.prog (binOp .neq 30 (.agg (hitC hit0).toArray) (.agg #[.int .i64 0, .int .i64 0, .int .i64 0, .bool false, .bool false, .bool false, .bool false])) W = .ok (.bool false) W := hit_neq0
              clear hh hI2 cg
              go_wp2_with fail
              refine CG.out.mono ?_
              rintro e w6 ⟨rfl, hH6, hB6⟩
              have hB6 := hB5.trans hB6
              clear hH5 hB5 CG
              obtain ⟨xb, hxb⟩ : ∃ xb, w6.heap.size = xb := ⟨_, rfl⟩
              have hl7 : (hitC hit0).length = 7 := rfl
              have tok3 : True := trivial
              go_wp2_with (first
                | (have _t := tok3; refine wpList_store_all [] _ (hH6.newblk xb 30 hitZ hxb) 30 (.tmp 14) (.tmp 109) rfl rfl rfl _ rfl hit_size' rfl (hitC_one _) ?_; clear _t tok3; intro w7 hH7 hB7' hz7; clear hz7; have hB7 := hB6.trans ((below_new (Below.refl _ _) hH6 _).trans hB7'); clear hB7' hH6 hB6)
                | (refine wpList_load_blk [] _ hH7 30 (.tmp 14) rfl rfl rfl _ Try.underlying30 rfl hit_size' ?_))
              go_roundg (gk - 1)
              case measure => have := HK.out; omega
              case rel => exact ⟨k + 1, _, _, _, by have := HK.out; omega, by go_num, rfl, HI2.out, hH7.drop, hB7⟩
      · obtain rfl : k = l.length := by omega
        go_wp2_with fail
        go_ret
        exact ⟨rfl, hBr⟩

end Go.Proofs.Ytcfphdebekbbkaa
