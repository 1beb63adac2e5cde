-- PRINTED by print.py (a twelfth state) out of the translation. Not trusted: Lean checks it.
import Derived.Test.YtfibkajflenekaaDoorPAskx0
import Derived.Test.YtfibkajflenekaaDoorPAskx1
import Derived.Test.YtfibkajflenekaaDoorPAskx2
namespace Go.Proofs.YtfibkajflenekaaDoor.PAsk
open Go.Proofs.YtfibkajflenekaaDoor.G
open Go.RowKit Go.Proofs.YtfibkajflenekaaDoorW.PrintWords Go.Proofs.YtfibkajflenekaaDoorW.PrintLast Go.Proofs.YtfibkajflenekaaDoorW.PrintMore
attribute [local go_sem] max2_int min2_int max_two min_two max_three min_three max_four min_four   -- for this text's walks alone
set_option linter.unusedVariables false
set_option linter.unusedSimpArgs false

/-! ### cubbyref21_Parse: function 9 -/
mutual
def cubbyref21_Parse.l0 : Nat → ByteArray → Int → Option (Int × ByteArray × ByteArray × Int)
  | 0, _, _ => none
  | k + 1, x0, x4 => if x4 ≤ 9 then ((cubbyref21_word.f x4).bind fun t121 => (if x4 = 1 then (cubbyref21_Parse.j1 k x0 x4 t121 (decide ((x0.size : Int) > (t121.size : Int))) x4 (⟨#[]⟩ : ByteArray) (⟨#[]⟩ : ByteArray)) else (cubbyref21_Parse.j1 k x0 x4 t121 false x4 (⟨#[]⟩ : ByteArray) (⟨#[]⟩ : ByteArray)))) else (some (0, (⟨#[]⟩ : ByteArray), (⟨#[]⟩ : ByteArray), 210))
def cubbyref21_Parse.j1 : Nat → ByteArray → Int → ByteArray → Bool → Int → ByteArray → ByteArray → Option (Int × ByteArray × ByteArray × Int)
  | 0, _, _, _, _, _, _, _ => none
  | k + 1, x0, x4, x5, x25, x123000, x123001, x123002 => if x25 = true then (if 0 ≤ (wrap64 ((x5.size : Int) + 1)) then (if (wrap64 ((x5.size : Int) + 1)) ≤ (x0.size : Int) then (cubbyref21_Parse.j2 k x0 x4 x5 x123000 x123001 (x0.extract ((wrap64 ((x5.size : Int) + 1)) : Int).toNat x0.size)) else (none)) else (none)) else (cubbyref21_Parse.j2 k x0 x4 x5 x123000 x123001 x123002)
def cubbyref21_Parse.j2 : Nat → ByteArray → Int → ByteArray → Int → ByteArray → ByteArray → Option (Int × ByteArray × ByteArray × Int)
  | 0, _, _, _, _, _, _ => none
  | k + 1, x0, x4, x5, x123000, x123001, x123002 => if x4 > 1 then (if x4 ≤ 6 then (cubbyref21_Parse.j3 k x0 x4 x5 (decide ((x0.size : Int) > (x5.size : Int))) x123000 x123001 x123002) else (cubbyref21_Parse.j3 k x0 x4 x5 false x123000 x123001 x123002)) else (cubbyref21_Parse.j3 k x0 x4 x5 false x123000 x123001 x123002)
def cubbyref21_Parse.j3 : Nat → ByteArray → Int → ByteArray → Bool → Int → ByteArray → ByteArray → Option (Int × ByteArray × ByteArray × Int)
  | 0, _, _, _, _, _, _, _ => none
  | k + 1, x0, x4, x5, x44, x123000, x123001, x123002 => if x44 = true then (if 0 ≤ (wrap64 ((x5.size : Int) + 1)) then (if (wrap64 ((x5.size : Int) + 1)) ≤ (x0.size : Int) then ((cubbyref21_Print.f k x123000 (x0.extract ((wrap64 ((x5.size : Int) + 1)) : Int).toNat x0.size) x123002).bind fun bt123 => (if bt123.2 = 0 then (if bt123.1.toList = x0.toList then (some (x123000, x0.extract ((wrap64 ((x5.size : Int) + 1)) : Int).toNat x0.size, x123002, 0)) else (cubbyref21_Parse.l0 k x0 (wrap64 (x4 + 1)))) else (cubbyref21_Parse.l0 k x0 (wrap64 (x4 + 1))))) else (none)) else (none)) else ((cubbyref21_Print.f k x123000 x123001 x123002).bind fun bt125 => (if bt125.2 = 0 then (if bt125.1.toList = x0.toList then (some (x123000, x123001, x123002, 0)) else (cubbyref21_Parse.l0 k x0 (wrap64 (x4 + 1)))) else (cubbyref21_Parse.l0 k x0 (wrap64 (x4 + 1)))))
end
def cubbyref21_Parse.f (k : Nat) (a0 : ByteArray) : Option (Int × ByteArray × ByteArray × Int) := cubbyref21_Parse.l0 k a0 1
theorem cubbyref21_Parse.mono_l : ∀ k, (∀ y0 y1, LeO (cubbyref21_Parse.l0 k y0 y1) (cubbyref21_Parse.l0 (k + 1) y0 y1)) ∧ (∀ y0 y1 y2 y3 y4 y5 y6, LeO (cubbyref21_Parse.j1 k y0 y1 y2 y3 y4 y5 y6) (cubbyref21_Parse.j1 (k + 1) y0 y1 y2 y3 y4 y5 y6)) ∧ (∀ y0 y1 y2 y3 y4 y5, LeO (cubbyref21_Parse.j2 k y0 y1 y2 y3 y4 y5) (cubbyref21_Parse.j2 (k + 1) y0 y1 y2 y3 y4 y5)) ∧ (∀ y0 y1 y2 y3 y4 y5 y6, LeO (cubbyref21_Parse.j3 k y0 y1 y2 y3 y4 y5 y6) (cubbyref21_Parse.j3 (k + 1) y0 y1 y2 y3 y4 y5 y6))
  | 0 => ⟨fun _ _ r h => by simp [cubbyref21_Parse.l0] at h, fun _ _ _ _ _ _ _ r h => by simp [cubbyref21_Parse.j1] at h, fun _ _ _ _ _ _ r h => by simp [cubbyref21_Parse.j2] at h, fun _ _ _ _ _ _ _ r h => by simp [cubbyref21_Parse.j3] at h⟩
  | k + 1 => by
    obtain ⟨ih0, ih1, ih2, ih3⟩ := cubbyref21_Parse.mono_l k
    refine ⟨?_, ?_, ?_, ?_⟩
    · intro y0 y1
      unfold cubbyref21_Parse.l0
      repeat' first
      | (with_reducible exact ih0 _ _)
      | (with_reducible exact ih1 _ _ _ _ _ _ _)
      | (with_reducible exact ih2 _ _ _ _ _ _)
      | (with_reducible exact ih3 _ _ _ _ _ _ _)
      | (with_reducible exact cubbyref21_Print.mono _ _ _ _)
      | (with_reducible exact LeO.refl _)
      | (with_reducible exact LeO.none _)
      | (with_reducible refine LeO.ite ?_ ?_)
      | (with_reducible refine LeO.bind ?_ (fun _ => ?_))
      | exact ih0 _ _
      | exact ih1 _ _ _ _ _ _ _
      | exact ih2 _ _ _ _ _ _
      | exact ih3 _ _ _ _ _ _ _
      | exact cubbyref21_Print.mono _ _ _ _
      | exact LeO.none _
      | refine LeO.ite ?_ ?_
      | refine LeO.bind ?_ (fun _ => ?_)
    · intro y0 y1 y2 y3 y4 y5 y6
      unfold cubbyref21_Parse.j1
      repeat' first
      | (with_reducible exact ih0 _ _)
      | (with_reducible exact ih1 _ _ _ _ _ _ _)
      | (with_reducible exact ih2 _ _ _ _ _ _)
      | (with_reducible exact ih3 _ _ _ _ _ _ _)
      | (with_reducible exact cubbyref21_Print.mono _ _ _ _)
      | (with_reducible exact LeO.refl _)
      | (with_reducible exact LeO.none _)
      | (with_reducible refine LeO.ite ?_ ?_)
      | (with_reducible refine LeO.bind ?_ (fun _ => ?_))
      | exact ih0 _ _
      | exact ih1 _ _ _ _ _ _ _
      | exact ih2 _ _ _ _ _ _
      | exact ih3 _ _ _ _ _ _ _
      | exact cubbyref21_Print.mono _ _ _ _
      | exact LeO.none _
      | refine LeO.ite ?_ ?_
      | refine LeO.bind ?_ (fun _ => ?_)
    · intro y0 y1 y2 y3 y4 y5
      unfold cubbyref21_Parse.j2
      repeat' first
      | (with_reducible exact ih0 _ _)
      | (with_reducible exact ih1 _ _ _ _ _ _ _)
      | (with_reducible exact ih2 _ _ _ _ _ _)
      | (with_reducible exact ih3 _ _ _ _ _ _ _)
      | (with_reducible exact cubbyref21_Print.mono _ _ _ _)
      | (with_reducible exact LeO.refl _)
      | (with_reducible exact LeO.none _)
      | (with_reducible refine LeO.ite ?_ ?_)
      | (with_reducible refine LeO.bind ?_ (fun _ => ?_))
      | exact ih0 _ _
      | exact ih1 _ _ _ _ _ _ _
      | exact ih2 _ _ _ _ _ _
      | exact ih3 _ _ _ _ _ _ _
      | exact cubbyref21_Print.mono _ _ _ _
      | exact LeO.none _
      | refine LeO.ite ?_ ?_
      | refine LeO.bind ?_ (fun _ => ?_)
    · intro y0 y1 y2 y3 y4 y5 y6
      unfold cubbyref21_Parse.j3
      repeat' first
      | (with_reducible exact ih0 _ _)
      | (with_reducible exact ih1 _ _ _ _ _ _ _)
      | (with_reducible exact ih2 _ _ _ _ _ _)
      | (with_reducible exact ih3 _ _ _ _ _ _ _)
      | (with_reducible exact cubbyref21_Print.mono _ _ _ _)
      | (with_reducible exact LeO.refl _)
      | (with_reducible exact LeO.none _)
      | (with_reducible refine LeO.ite ?_ ?_)
      | (with_reducible refine LeO.bind ?_ (fun _ => ?_))
      | exact ih0 _ _
      | exact ih1 _ _ _ _ _ _ _
      | exact ih2 _ _ _ _ _ _
      | exact ih3 _ _ _ _ _ _ _
      | exact cubbyref21_Print.mono _ _ _ _
      | exact LeO.none _
      | refine LeO.ite ?_ ?_
      | refine LeO.bind ?_ (fun _ => ?_)
theorem cubbyref21_Parse.mono : ∀ a0 k, LeO (cubbyref21_Parse.f k a0) (cubbyref21_Parse.f (k + 1) a0) := by
  intro a0 k
  obtain ⟨ih0, ih1, ih2, ih3⟩ := cubbyref21_Parse.mono_l k
  unfold cubbyref21_Parse.f
  repeat' first
      | (with_reducible exact ih0 _ _)
      | (with_reducible exact ih1 _ _ _ _ _ _ _)
      | (with_reducible exact ih2 _ _ _ _ _ _)
      | (with_reducible exact ih3 _ _ _ _ _ _ _)
      | (with_reducible exact cubbyref21_Print.mono _ _ _ _)
      | (with_reducible exact LeO.refl _)
      | (with_reducible exact LeO.none _)
      | (with_reducible refine LeO.ite ?_ ?_)
      | (with_reducible refine LeO.bind ?_ (fun _ => ?_))
      | exact ih0 _ _
      | exact ih1 _ _ _ _ _ _ _
      | exact ih2 _ _ _ _ _ _
      | exact ih3 _ _ _ _ _ _ _
      | exact cubbyref21_Print.mono _ _ _ _
      | exact LeO.none _
      | refine LeO.ite ?_ ?_
      | refine LeO.bind ?_ (fun _ => ?_)
set_option maxHeartbeats 8000000 in
set_option maxRecDepth 100000 in
theorem cubbyref21_Parse.calls (k : Nat) (a0 : ByteArray) (r1 : Int) (r2 : ByteArray) (r3 : ByteArray) (r4 : Int) (w : World) (hG : GW w) (h : cubbyref21_Parse.f k a0 = some (r1, r2, r3, r4)) :
    Calls Tryd.prog 9 #[.string a0] w fun e w' => e = .returned (.tuple #[.agg #[.int .i64 r1, .string r2, .string r3], .int .i64 r4]) ∧ Below w.heap.size w w' := by
  have hu31 := Tryd.underlying31
  have hGA := Aside0.mk hG
  clear hG
  have HB := Aside0.mk (Below.refl w.heap.size w)
  have H : (cubbyref21_Parse.l0 k a0 1) = some (r1, r2, r3, r4) := h
  clear h
  have H' := Aside0.mk H
  clear H
  go_enter Tryd.func9, Tryd.ntmps9
  go_wp2_with (first | ((with_reducible refine gate_dst (N := 2) rfl ?_); (try (refine gate_guard (by rfl) ?_; dsimp only)); refine box_event ?hg (N := 2) ?hd (cs := #[.int .i64 0, .string (⟨#[]⟩ : ByteArray), .string (⟨#[]⟩ : ByteArray)]) (t := 31) ?hr ?_; (case hd => rfl); (case hg => rfl); (case hr => first | (go_simp; done) | (go_simp; rfl)); intro gb120 hg w2 hbox hb; have n0_ := Aside0.mk (below_step (by repeat (first | (with_reducible first | exact HB.out | apply below_alloc | apply pw_below_drewN | apply below_drew1) | exact HB.out)) hb); have n1_ := Aside0.mk (hbox); have n2_ := Aside0.mk ((by rw [hg]; exact (below_size (by repeat (first | (with_reducible first | exact HB.out | apply below_alloc | apply pw_below_drewN | apply below_drew1) | exact HB.out))) : w.heap.size ≤ gb120)); have n3_ := Aside0.mk ((by rw [hg]; exact (below_size (by repeat (first | (with_reducible first | exact HB.out | apply below_alloc | apply pw_below_drewN | apply below_drew1) | exact HB.out))) : w.heap.size ≤ gb120)); clear HB; have HB := n0_; have BK120 := n1_; have GW120 := n2_; have GE120 := n3_; clear n0_ n1_ n2_ n3_; clear hb hbox hg))
  go_loopg [4] k (fun kq v4 w' => ∃ (x4_1 : Int) (x121000_1 : Int) (x121001_1 : ByteArray) (x121002_1 : ByteArray), v4 = .int .i64 x4_1 ∧ Aside0 (cubbyref21_Parse.l0 kq a0 x4_1 = some (r1, r2, r3, r4)) ∧ Aside0 (kq ≤ k) ∧ Aside0 (w'.heap[gb120]? = some (.cells #[.int .i64 x121000_1, .string x121001_1, .string x121002_1] 31 (0, 0))) ∧ Aside0 (Below w.heap.size w w'))
  case atStart => exact ⟨(1), (0), ((⟨#[]⟩ : ByteArray)), ((⟨#[]⟩ : ByteArray)), (by first | rfl | (simp; done) | (simp [*]; done)), H', ⟨Nat.le_refl _⟩, ⟨by (with_reducible repeat (first | refine blk_drewN ?_ _ | refine blk_drew ?_ | refine blk_alloc ?_ _)); exact BK120.out⟩, ⟨by repeat (first | (with_reducible first | exact HB.out | apply below_alloc | apply pw_below_drewN | apply below_drew1 | refine below_set ?_ GE120.out) | exact HB.out)⟩⟩
  case round =>
    clear H'
    try clear p2
    obtain ⟨x4_1, x121000_1, x121001_1, x121002_1, rfl, HA, HK1, BK120, HB⟩ := hrel
    cases gk with
    | zero => exact absurd HA.out (by simp [cubbyref21_Parse.l0])
    | succ k1 =>
      have H := HA.out
      clear HA
      simp only [cubbyref21_Parse.l0] at H
      by_cases c3 : x4_1 ≤ 9
      · rw [if_pos c3] at H
        have c3b0 : decide (x4_1 ≤ 9) = true := decide_eq_true c3
        clear c3
        replace H := Option.bind_eq_some_iff.mp H
        obtain ⟨t121, A40, H⟩ := H
        replace H : (if x4_1 = 1 then (cubbyref21_Parse.j1 k1 a0 x4_1 t121 (decide ((a0.size : Int) > (t121.size : Int))) x4_1 (⟨#[]⟩ : ByteArray) (⟨#[]⟩ : ByteArray)) else (cubbyref21_Parse.j1 k1 a0 x4_1 t121 false x4_1 (⟨#[]⟩ : ByteArray) (⟨#[]⟩ : ByteArray))) = some (r1, r2, r3, r4) := H
        have A4 := Aside0.mk A40
        clear A40
        have HC5 := Aside0.mk H
        clear H
        go_upto_region 6 with (first | ((with_reducible refine gate_callee (f := 26) rfl ?_); refine goesL_ (some 14) rfl rfl Tryd.func26 (by kernel_rfl) rfl #[.int .i64 x4_1] rfl (by (try simp only [List.map_toArray, List.map_cons, List.map_nil]); first | done | rfl | (simp only [List.length_drop, List.length_take]; rfl)) ?_; (with_reducible refine (cubbyref21_word.calls x4_1 t121 _ ?side1 A4.out).mono ?_); (case side1 => exact GW_below hGA.out (by repeat (first | (with_reducible first | exact HB.out | apply below_alloc | apply pw_below_drewN | apply below_drew1 | refine below_set ?_ GE120.out) | exact HB.out))); rintro e w6 ⟨rfl, hb⟩; refine ⟨_, rfl, ?_⟩; have n0_ := Aside0.mk (blk_below (g := gb120) (o := .cells #[.int .i64 x121000_1, .string x121001_1, .string x121002_1] 31 (0, 0)) (by (with_reducible repeat (first | refine blk_drewN ?_ _ | refine blk_drew ?_ | refine blk_alloc ?_ _)); exact BK120.out) hb); have n1_ := Aside0.mk (below_step (by repeat (first | (with_reducible first | exact HB.out | apply below_alloc | apply pw_below_drewN | apply below_drew1 | refine below_set ?_ GE120.out) | exact HB.out)) hb); clear BK120; clear HB; have BK120 := n0_; have HB := n1_; clear n0_ n1_; (try clear hb); (try clear hb2); (try clear hk); (try clear hi)) | ((with_reducible refine gate_dst (N := 6) rfl ?_); (try (refine gate_guard (by rfl) ?_; dsimp only)); refine box_event ?hg (N := 6) ?hd (cs := #[.int .i64 0, .string (⟨#[]⟩ : ByteArray), .string (⟨#[]⟩ : ByteArray)]) (t := 31) ?hr ?_; (case hd => rfl); (case hg => rfl); (case hr => first | (go_simp; done) | (go_simp; rfl)); intro gb122 hg w7 hbox hb; have n0_ := Aside0.mk (blk_below (g := gb120) (o := .cells #[.int .i64 x121000_1, .string x121001_1, .string x121002_1] 31 (0, 0)) (by (with_reducible repeat (first | refine blk_drewN ?_ _ | refine blk_drew ?_ | refine blk_alloc ?_ _)); exact BK120.out) hb); have n1_ := Aside0.mk (below_step (by repeat (first | (with_reducible first | exact HB.out | apply below_alloc | apply pw_below_drewN | apply below_drew1 | refine below_set ?_ GE120.out) | exact HB.out)) hb); have n2_ := Aside0.mk (hbox); have n3_ := Aside0.mk ((by rw [hg]; exact (below_size (by repeat (first | (with_reducible first | exact HB.out | apply below_alloc | apply pw_below_drewN | apply below_drew1 | refine below_set ?_ GE120.out) | exact HB.out))) : w.heap.size ≤ gb122)); have n4_ := Aside0.mk ((by rw [hg]; exact (below_size (by repeat (first | (with_reducible first | exact HB.out | apply below_alloc | apply pw_below_drewN | apply below_drew1 | refine below_set ?_ GE120.out) | exact HB.out))) : w.heap.size ≤ gb122)); have n5_ := Aside0.mk ((by rw [hg]; exact Nat.ne_of_lt (blk_lt (g := gb120) (o := .cells #[.int .i64 x121000_1, .string x121001_1, .string x121002_1] 31 (0, 0)) (by (with_reducible repeat (first | refine blk_drewN ?_ _ | refine blk_drew ?_ | refine blk_alloc ?_ _)); exact BK120.out)) : gb120 ≠ gb122)); have n6_ := Aside0.mk ((by rw [hg]; exact Nat.ne_of_gt (blk_lt (g := gb120) (o := .cells #[.int .i64 x121000_1, .string x121001_1, .string x121002_1] 31 (0, 0)) (by (with_reducible repeat (first | refine blk_drewN ?_ _ | refine blk_drew ?_ | refine blk_alloc ?_ _)); exact BK120.out)) : gb122 ≠ gb120)); clear BK120; clear HB; have BK120 := n0_; have HB := n1_; have BK122 := n2_; have GW122 := n3_; have GE122 := n4_; have NB120_122 := n5_; have NB122_120 := n6_; clear n0_ n1_ n2_ n3_ n4_ n5_ n6_; clear hb hbox hg; have hnb8 := NB122_120.out; have hnc8 := NB120_122.out; have hcz9_0 : w7.cell? ⟨gb122, 0, none⟩ = some (.int .i64 0) := (blk_cell BK122.out 0).trans rfl; have hcz9_1 : w7.cell? ⟨gb122, 1, none⟩ = some (.string (⟨#[]⟩ : ByteArray)) := (blk_cell BK122.out 1).trans rfl; have hcz9_2 : w7.cell? ⟨gb122, 2, none⟩ = some (.string (⟨#[]⟩ : ByteArray)) := (blk_cell BK122.out 2).trans rfl; have hfz9_0 := blk_frozen BK122.out 0; have hfz9_1 := blk_frozen BK122.out 1; have hfz9_2 := blk_frozen BK122.out 2))
        (try simp only [Act.put, List.setIfInBounds_toArray, List.set_cons_zero, List.set_cons_succ])
        go_cut [25] (fun v25 wc => ∃ (kq : Nat) (x25_4 : Bool), v25 = .bool x25_4 ∧ Aside0 (cubbyref21_Parse.j1 kq a0 x4_1 t121 x25_4 x4_1 (⟨#[]⟩ : ByteArray) (⟨#[]⟩ : ByteArray) = some (r1, r2, r3, r4)) ∧ Aside0 (kq ≤ k1) ∧ Aside0 (wc.heap[gb120]? = some (.cells #[.int .i64 x121000_1, .string x121001_1, .string x121002_1] 31 (0, 0))) ∧ Aside0 (wc.heap[gb122]? = some (.cells #[.int .i64 x4_1, .string (⟨#[]⟩ : ByteArray), .string (⟨#[]⟩ : ByteArray)] 31 (0, 0))) ∧ Aside0 (Below w.heap.size w wc))
        case first =>
          have H := HC5.out
          clear HC5
          by_cases c10 : x4_1 = 1
          · rw [if_pos c10] at H
            have c10b0 : (x4_1 == 1) = true := beq_iff_eq.mpr c10
            have c10b1 : (x4_1 != 1) = false := bne_eq_false_iff_eq.mpr c10
            clear c10
            (first | rw [c10b0] | (simp only [i64_w, i32_w]; rw [c10b0]) | skip)
            have H' := Aside0.mk H
            clear H
            go_wp2
            go_meet
            case rel => exact ⟨_, (decide ((a0.size : Int) > (t121.size : Int))), (by first | rfl | (simp; done) | (simp [*]; done)), H', ⟨by have := HK1.out; first | omega | exact Nat.le_refl _⟩, ⟨by (with_reducible repeat (first | refine blk_drewN ?_ _ | refine blk_drew ?_ | refine blk_alloc ?_ _)); refine blk_far ?_ NB120_122.out _; (with_reducible repeat (first | refine blk_drewN ?_ _ | refine blk_drew ?_ | refine blk_alloc ?_ _)); refine blk_far ?_ NB120_122.out _; (with_reducible repeat (first | refine blk_drewN ?_ _ | refine blk_drew ?_ | refine blk_alloc ?_ _)); refine blk_far ?_ NB120_122.out _; (with_reducible repeat (first | refine blk_drewN ?_ _ | refine blk_drew ?_ | refine blk_alloc ?_ _)); exact BK120.out⟩, ⟨by (with_reducible repeat (first | refine blk_drewN ?_ _ | refine blk_drew ?_ | refine blk_alloc ?_ _)); refine blk_put (cs := #[.int .i64 x4_1, .string (⟨#[]⟩ : ByteArray), .string (⟨#[]⟩ : ByteArray)]) ?_ 2 _ rfl; (with_reducible repeat (first | refine blk_drewN ?_ _ | refine blk_drew ?_ | refine blk_alloc ?_ _)); refine blk_put (cs := #[.int .i64 x4_1, .string (⟨#[]⟩ : ByteArray), .string (⟨#[]⟩ : ByteArray)]) ?_ 1 _ rfl; (with_reducible repeat (first | refine blk_drewN ?_ _ | refine blk_drew ?_ | refine blk_alloc ?_ _)); refine blk_put (cs := #[.int .i64 0, .string (⟨#[]⟩ : ByteArray), .string (⟨#[]⟩ : ByteArray)]) ?_ 0 _ rfl; (with_reducible repeat (first | refine blk_drewN ?_ _ | refine blk_drew ?_ | refine blk_alloc ?_ _)); exact BK122.out⟩, ⟨by repeat (first | (with_reducible first | exact HB.out | apply below_alloc | apply pw_below_drewN | apply below_drew1 | refine below_set ?_ GE120.out | refine below_set ?_ GE122.out) | exact HB.out)⟩⟩
          · rw [if_neg c10] at H
            have c10b0 : (x4_1 == 1) = false := beq_eq_false_iff_ne.mpr c10
            have c10b1 : (x4_1 != 1) = true := bne_iff_ne.mpr c10
            (first | rw [c10b0] | (simp only [i64_w, i32_w]; rw [c10b0]) | skip)
            have H' := Aside0.mk H
            clear H
            go_wp2
            go_meet
            case rel => exact ⟨_, (false), (by first | rfl | (simp; done) | (simp [*]; done)), H', ⟨by have := HK1.out; first | omega | exact Nat.le_refl _⟩, ⟨by (with_reducible repeat (first | refine blk_drewN ?_ _ | refine blk_drew ?_ | refine blk_alloc ?_ _)); refine blk_far ?_ NB120_122.out _; (with_reducible repeat (first | refine blk_drewN ?_ _ | refine blk_drew ?_ | refine blk_alloc ?_ _)); refine blk_far ?_ NB120_122.out _; (with_reducible repeat (first | refine blk_drewN ?_ _ | refine blk_drew ?_ | refine blk_alloc ?_ _)); refine blk_far ?_ NB120_122.out _; (with_reducible repeat (first | refine blk_drewN ?_ _ | refine blk_drew ?_ | refine blk_alloc ?_ _)); exact BK120.out⟩, ⟨by (with_reducible repeat (first | refine blk_drewN ?_ _ | refine blk_drew ?_ | refine blk_alloc ?_ _)); refine blk_put (cs := #[.int .i64 x4_1, .string (⟨#[]⟩ : ByteArray), .string (⟨#[]⟩ : ByteArray)]) ?_ 2 _ rfl; (with_reducible repeat (first | refine blk_drewN ?_ _ | refine blk_drew ?_ | refine blk_alloc ?_ _)); refine blk_put (cs := #[.int .i64 x4_1, .string (⟨#[]⟩ : ByteArray), .string (⟨#[]⟩ : ByteArray)]) ?_ 1 _ rfl; (with_reducible repeat (first | refine blk_drewN ?_ _ | refine blk_drew ?_ | refine blk_alloc ?_ _)); refine blk_put (cs := #[.int .i64 0, .string (⟨#[]⟩ : ByteArray), .string (⟨#[]⟩ : ByteArray)]) ?_ 0 _ rfl; (with_reducible repeat (first | refine blk_drewN ?_ _ | refine blk_drew ?_ | refine blk_alloc ?_ _)); exact BK122.out⟩, ⟨by repeat (first | (with_reducible first | exact HB.out | apply below_alloc | apply pw_below_drewN | apply below_drew1 | refine below_set ?_ GE120.out | refine below_set ?_ GE122.out) | exact HB.out)⟩⟩
        case rest =>
          clear HC5
          try clear c1
          try clear c2
          try clear p2
          try clear c3
          try clear c3b0
          try clear c8
          try clear c9
          try clear c10
          try clear c10b0
          try clear c10b1
          try clear hcz9_0
          try clear hcz9_1
          try clear hcz9_2
          try clear hfz9_0
          try clear hfz9_1
          try clear hfz9_2
          try clear p2
          obtain ⟨kq, x25_4, rfl, HA, HJ4, BK120, BK122, HB⟩ := hcut
          cases kq with
          | zero => exact absurd HA.out (by simp [cubbyref21_Parse.j1])
          | succ kj4 =>
            have H := HA.out
            clear HA
            simp only [cubbyref21_Parse.j1] at H
            have HC11 := Aside0.mk H
            clear H
            go_upto_if 25 with (fail)
            go_cut [] (fun wc => ∃ (kq : Nat) (x123002_10 : ByteArray), Aside0 (cubbyref21_Parse.j2 kq a0 x4_1 t121 x4_1 (⟨#[]⟩ : ByteArray) x123002_10 = some (r1, r2, r3, r4)) ∧ Aside0 (kq ≤ kj4) ∧ Aside0 (wc.heap[gb120]? = some (.cells #[.int .i64 x121000_1, .string x121001_1, .string x121002_1] 31 (0, 0))) ∧ Aside0 (wc.heap[gb122]? = some (.cells #[.int .i64 x4_1, .string (⟨#[]⟩ : ByteArray), .string x123002_10] 31 (0, 0))) ∧ Aside0 (Below w.heap.size w wc))
            case first =>
              have H := HC11.out
              clear HC11
              by_cases c12 : x25_4 = true
              · subst c12
                have H1 : (if 0 ≤ (wrap64 ((t121.size : Int) + 1)) then (if (wrap64 ((t121.size : Int) + 1)) ≤ (a0.size : Int) then (cubbyref21_Parse.j2 kj4 a0 x4_1 t121 x4_1 (⟨#[]⟩ : ByteArray) (a0.extract ((wrap64 ((t121.size : Int) + 1)) : Int).toNat a0.size)) else (none)) else (none)) = some (r1, r2, r3, r4) := by rw [if_pos rfl] at H; exact H
                clear H
                have H := H1
                clear H1
                obtain ⟨ji13, hji13⟩ : ∃ j_ : Int, (wrap64 ((t121.size : Int) + 1)) = j_ := ⟨_, rfl⟩
                replace H : (if 0 ≤ (ji13) then (if (ji13) ≤ (a0.size : Int) then (cubbyref21_Parse.j2 kj4 a0 x4_1 t121 x4_1 (⟨#[]⟩ : ByteArray) (a0.extract ((ji13) : Int).toNat a0.size)) else (none)) else (none)) = some (r1, r2, r3, r4) := by first | (rw [hji13] at H; exact H) | (simp only [hji13] at H ⊢; exact H)
                have hji13w : (IntKind.i64.wrap ((t121.size : Int) + 1)) = ji13 := (i64_w _).trans hji13
                by_cases c14 : 0 ≤ (ji13)
                · rw [if_pos c14] at H
                  have c14b0 := eq_true c14
                  have c14b1 : decide (0 ≤ (ji13)) = true := decide_eq_true c14
                  clear c14
                  by_cases c15 : (ji13) ≤ (a0.size : Int)
                  · rw [if_pos c15] at H
                    have c15b0 := eq_true c15
                    have c15b1 : decide ((ji13) ≤ (a0.size : Int)) = true := decide_eq_true c15
                    clear c15
                    have H' := Aside0.mk H
                    clear H
                    have hnb16 := NB122_120.out
                    have hnc16 := NB120_122.out
                    have hcz17_0 : wc.cell? ⟨gb122, 0, none⟩ = some (.int .i64 x4_1) := (blk_cell BK122.out 0).trans rfl
                    have hcz17_1 : wc.cell? ⟨gb122, 1, none⟩ = some (.string (⟨#[]⟩ : ByteArray)) := (blk_cell BK122.out 1).trans rfl
                    have hcz17_2 : wc.cell? ⟨gb122, 2, none⟩ = some (.string (⟨#[]⟩ : ByteArray)) := (blk_cell BK122.out 2).trans rfl
                    have hfz17_0 := blk_frozen BK122.out 0
                    have hfz17_1 := blk_frozen BK122.out 1
                    have hfz17_2 := blk_frozen BK122.out 2
                    go_wp2
                    go_meet
                    case rel => exact ⟨_, (a0.extract ((ji13) : Int).toNat a0.size), H', ⟨by have := HK1.out; have := HJ4.out; first | omega | exact Nat.le_refl _⟩, ⟨by (with_reducible repeat (first | refine blk_drewN ?_ _ | refine blk_drew ?_ | refine blk_alloc ?_ _)); refine blk_far ?_ NB120_122.out _; (with_reducible repeat (first | refine blk_drewN ?_ _ | refine blk_drew ?_ | refine blk_alloc ?_ _)); exact BK120.out⟩, ⟨by (with_reducible repeat (first | refine blk_drewN ?_ _ | refine blk_drew ?_ | refine blk_alloc ?_ _)); refine blk_put (cs := #[.int .i64 x4_1, .string (⟨#[]⟩ : ByteArray), .string (⟨#[]⟩ : ByteArray)]) ?_ 2 _ rfl; (with_reducible repeat (first | refine blk_drewN ?_ _ | refine blk_drew ?_ | refine blk_alloc ?_ _)); exact BK122.out⟩, ⟨by repeat (first | (with_reducible first | exact HB.out | apply below_alloc | apply pw_below_drewN | apply below_drew1 | refine below_set ?_ GE120.out | refine below_set ?_ GE122.out) | exact HB.out)⟩⟩
                  · rw [if_neg c15] at H
                    exact absurd H (by simp)
                · rw [if_neg c14] at H
                  exact absurd H (by simp)
              · replace c12 := Bool.eq_false_iff.mpr c12
                subst c12
                have H1 : (cubbyref21_Parse.j2 kj4 a0 x4_1 t121 x4_1 (⟨#[]⟩ : ByteArray) (⟨#[]⟩ : ByteArray)) = some (r1, r2, r3, r4) := by rw [if_neg (show ¬ (false = true) by decide)] at H; exact H
                clear H
                have H := H1
                clear H1
                have H' := Aside0.mk H
                clear H
                go_wp2
                go_meet
                case rel => exact ⟨_, ((⟨#[]⟩ : ByteArray)), H', ⟨by have := HK1.out; have := HJ4.out; first | omega | exact Nat.le_refl _⟩, ⟨by (with_reducible repeat (first | refine blk_drewN ?_ _ | refine blk_drew ?_ | refine blk_alloc ?_ _)); exact BK120.out⟩, ⟨by (with_reducible repeat (first | refine blk_drewN ?_ _ | refine blk_drew ?_ | refine blk_alloc ?_ _)); exact BK122.out⟩, ⟨by repeat (first | (with_reducible first | exact HB.out | apply below_alloc | apply pw_below_drewN | apply below_drew1 | refine below_set ?_ GE120.out | refine below_set ?_ GE122.out) | exact HB.out)⟩⟩
            case rest =>
              clear HC11
              try clear c1
              try clear c2
              try clear p2
              try clear c3
              try clear c3b0
              try clear p6
              try clear c8
              try clear c9
              try clear c10
              try clear c10b0
              try clear c10b1
              try clear c12
              try clear c14
              try clear c14b0
              try clear c14b1
              try clear c15
              try clear c15b0
              try clear c15b1
              try clear c16
              try clear hcz17_0
              try clear hcz17_1
              try clear hcz17_2
              try clear hcz9_0
              try clear hcz9_1
              try clear hcz9_2
              try clear hfz17_0
              try clear hfz17_1
              try clear hfz17_2
              try clear hfz9_0
              try clear hfz9_1
              try clear hfz9_2
              try clear p2
              obtain ⟨kq, x123002_10, HA, HJ10, BK120, BK122, HB⟩ := hcut
              cases kq with
              | zero => exact absurd HA.out (by simp [cubbyref21_Parse.j2])
              | succ kj10 =>
                have H := HA.out
                clear HA
                simp only [cubbyref21_Parse.j2] at H
                have HC18 := Aside0.mk H
                clear H
                go_upto_region 8 with (fail)
                go_cut [44] (fun v44 wc => ∃ (kq : Nat) (x44_17 : Bool), v44 = .bool x44_17 ∧ Aside0 (cubbyref21_Parse.j3 kq a0 x4_1 t121 x44_17 x4_1 (⟨#[]⟩ : ByteArray) x123002_10 = some (r1, r2, r3, r4)) ∧ Aside0 (kq ≤ kj10) ∧ Aside0 (wc.heap[gb120]? = some (.cells #[.int .i64 x121000_1, .string x121001_1, .string x121002_1] 31 (0, 0))) ∧ Aside0 (wc.heap[gb122]? = some (.cells #[.int .i64 x4_1, .string (⟨#[]⟩ : ByteArray), .string x123002_10] 31 (0, 0))) ∧ Aside0 (Below w.heap.size w wc))
                case first =>
                  have H := HC18.out
                  clear HC18
                  by_cases c19 : x4_1 > 1
                  · rw [if_pos c19] at H
                    have c19b0 : decide (1 < x4_1) = true := decide_eq_true c19
                    clear c19
                    (first | rw [c19b0] | (simp only [i64_w, i32_w]; rw [c19b0]) | skip)
                    by_cases c20 : x4_1 ≤ 6
                    · rw [if_pos c20] at H
                      have c20b0 : decide (x4_1 ≤ 6) = true := decide_eq_true c20
                      clear c20
                      have H' := Aside0.mk H
                      clear H
                      go_wp2
                      go_meet
                      case rel => exact ⟨_, (decide ((a0.size : Int) > (t121.size : Int))), (by first | rfl | (simp; done) | (simp [*]; done)), H', ⟨by have := HK1.out; have := HJ4.out; have := HJ10.out; first | omega | exact Nat.le_refl _⟩, ⟨by (with_reducible repeat (first | refine blk_drewN ?_ _ | refine blk_drew ?_ | refine blk_alloc ?_ _)); exact BK120.out⟩, ⟨by (with_reducible repeat (first | refine blk_drewN ?_ _ | refine blk_drew ?_ | refine blk_alloc ?_ _)); exact BK122.out⟩, ⟨by repeat (first | (with_reducible first | exact HB.out | apply below_alloc | apply pw_below_drewN | apply below_drew1 | refine below_set ?_ GE120.out | refine below_set ?_ GE122.out) | exact HB.out)⟩⟩
                    · rw [if_neg c20] at H
                      have c20b0 : decide (x4_1 ≤ 6) = false := decide_eq_false c20
                      clear c20
                      have H' := Aside0.mk H
                      clear H
                      go_wp2
                      go_meet
                      case rel => exact ⟨_, (false), (by first | rfl | (simp; done) | (simp [*]; done)), H', ⟨by have := HK1.out; have := HJ4.out; have := HJ10.out; first | omega | exact Nat.le_refl _⟩, ⟨by (with_reducible repeat (first | refine blk_drewN ?_ _ | refine blk_drew ?_ | refine blk_alloc ?_ _)); exact BK120.out⟩, ⟨by (with_reducible repeat (first | refine blk_drewN ?_ _ | refine blk_drew ?_ | refine blk_alloc ?_ _)); exact BK122.out⟩, ⟨by repeat (first | (with_reducible first | exact HB.out | apply below_alloc | apply pw_below_drewN | apply below_drew1 | refine below_set ?_ GE120.out | refine below_set ?_ GE122.out) | exact HB.out)⟩⟩
                  · rw [if_neg c19] at H
                    have c19b0 : decide (1 < x4_1) = false := decide_eq_false c19
                    clear c19
                    (first | rw [c19b0] | (simp only [i64_w, i32_w]; rw [c19b0]) | skip)
                    have H' := Aside0.mk H
                    clear H
                    go_wp2
                    go_meet
                    case rel => exact ⟨_, (false), (by first | rfl | (simp; done) | (simp [*]; done)), H', ⟨by have := HK1.out; have := HJ4.out; have := HJ10.out; first | omega | exact Nat.le_refl _⟩, ⟨by (with_reducible repeat (first | refine blk_drewN ?_ _ | refine blk_drew ?_ | refine blk_alloc ?_ _)); exact BK120.out⟩, ⟨by (with_reducible repeat (first | refine blk_drewN ?_ _ | refine blk_drew ?_ | refine blk_alloc ?_ _)); exact BK122.out⟩, ⟨by repeat (first | (with_reducible first | exact HB.out | apply below_alloc | apply pw_below_drewN | apply below_drew1 | refine below_set ?_ GE120.out | refine below_set ?_ GE122.out) | exact HB.out)⟩⟩
                case rest =>
                  clear HC18
                  try clear c1
                  try clear c2
                  try clear p2
                  try clear c3
                  try clear c3b0
                  try clear p6
                  try clear c8
                  try clear c9
                  try clear c10
                  try clear c10b0
                  try clear c10b1
                  try clear c12
                  try clear c14
                  try clear c14b0
                  try clear c14b1
                  try clear c15
                  try clear c15b0
                  try clear c15b1
                  try clear c16
                  try clear c19
                  try clear c19b0
                  try clear c20
                  try clear c20b0
                  try clear hcz17_0
                  try clear hcz17_1
                  try clear hcz17_2
                  try clear hcz9_0
                  try clear hcz9_1
                  try clear hcz9_2
                  try clear hfz17_0
                  try clear hfz17_1
                  try clear hfz17_2
                  try clear hfz9_0
                  try clear hfz9_1
                  try clear hfz9_2
                  try clear p2
                  try clear p6
                  obtain ⟨kq, x44_17, rfl, HA, HJ17, BK120, BK122, HB⟩ := hcut
                  cases kq with
                  | zero => exact absurd HA.out (by simp [cubbyref21_Parse.j3])
                  | succ kj17 =>
                    have H := HA.out
                    clear HA
                    simp only [cubbyref21_Parse.j3] at H
                    by_cases c21 : x44_17 = true
                    · subst c21
                      have H1 : (if 0 ≤ (wrap64 ((t121.size : Int) + 1)) then (if (wrap64 ((t121.size : Int) + 1)) ≤ (a0.size : Int) then ((cubbyref21_Print.f kj17 x4_1 (a0.extract ((wrap64 ((t121.size : Int) + 1)) : Int).toNat a0.size) x123002_10).bind fun bt123 => (if bt123.2 = 0 then (if bt123.1.toList = a0.toList then (some (x4_1, a0.extract ((wrap64 ((t121.size : Int) + 1)) : Int).toNat a0.size, x123002_10, 0)) else (cubbyref21_Parse.l0 kj17 a0 (wrap64 (x4_1 + 1)))) else (cubbyref21_Parse.l0 kj17 a0 (wrap64 (x4_1 + 1))))) else (none)) else (none)) = some (r1, r2, r3, r4) := by rw [if_pos rfl] at H; exact H
                      clear H
                      have H := H1
                      clear H1
                      obtain ⟨ji22, hji22⟩ : ∃ j_ : Int, (wrap64 ((t121.size : Int) + 1)) = j_ := ⟨_, rfl⟩
                      replace H : (if 0 ≤ (ji22) then (if (ji22) ≤ (a0.size : Int) then ((cubbyref21_Print.f kj17 x4_1 (a0.extract ((ji22) : Int).toNat a0.size) x123002_10).bind fun bt123 => (if bt123.2 = 0 then (if bt123.1.toList = a0.toList then (some (x4_1, a0.extract ((ji22) : Int).toNat a0.size, x123002_10, 0)) else (cubbyref21_Parse.l0 kj17 a0 (wrap64 (x4_1 + 1)))) else (cubbyref21_Parse.l0 kj17 a0 (wrap64 (x4_1 + 1))))) else (none)) else (none)) = some (r1, r2, r3, r4) := by first | (rw [hji22] at H; exact H) | (simp only [hji22] at H ⊢; exact H)
                      have hji22w : (IntKind.i64.wrap ((t121.size : Int) + 1)) = ji22 := (i64_w _).trans hji22
                      by_cases c23 : 0 ≤ (ji22)
                      · rw [if_pos c23] at H
                        have c23b0 := eq_true c23
                        have c23b1 : decide (0 ≤ (ji22)) = true := decide_eq_true c23
                        clear c23
                        by_cases c24 : (ji22) ≤ (a0.size : Int)
                        · rw [if_pos c24] at H
                          have c24b0 := eq_true c24
                          have c24b1 : decide ((ji22) ≤ (a0.size : Int)) = true := decide_eq_true c24
                          clear c24
                          replace H := Option.bind_eq_some_iff.mp H
                          obtain ⟨⟨t123, t124⟩, A250, H⟩ := H
                          replace H : (if t124 = 0 then (if t123.toList = a0.toList then (some (x4_1, a0.extract ((ji22) : Int).toNat a0.size, x123002_10, 0)) else (cubbyref21_Parse.l0 kj17 a0 (wrap64 (x4_1 + 1)))) else (cubbyref21_Parse.l0 kj17 a0 (wrap64 (x4_1 + 1)))) = some (r1, r2, r3, r4) := H
                          have A25 := Aside0.mk A250
                          clear A250
                          by_cases c26 : t124 = 0
                          · rw [if_pos c26] at H
                            have c26b0 : (t124 == 0) = true := beq_iff_eq.mpr c26
                            have c26b1 : (t124 != 0) = false := bne_eq_false_iff_eq.mpr c26
                            clear c26
                            by_cases c27 : t123.toList = a0.toList
                            · rw [if_pos c27] at H
                              have c27b0 : (t123.toList == a0.toList) = true := beq_iff_eq.mpr c27
                              have c27b1 : (t123.toList != a0.toList) = false := bne_eq_false_iff_eq.mpr c27
                              clear c27
                              simp only [Option.some.injEq, Prod.mk.injEq] at H
                              obtain ⟨rfl, rfl, rfl, rfl⟩ := H
                              have hnb28 := NB122_120.out
                              have hnc28 := NB120_122.out
                              have hcz29_0 : wc.cell? ⟨gb122, 0, none⟩ = some (.int .i64 x4_1) := (blk_cell BK122.out 0).trans rfl
                              have hcz29_1 : wc.cell? ⟨gb122, 1, none⟩ = some (.string (⟨#[]⟩ : ByteArray)) := (blk_cell BK122.out 1).trans rfl
                              have hcz29_2 : wc.cell? ⟨gb122, 2, none⟩ = some (.string x123002_10) := (blk_cell BK122.out 2).trans rfl
                              have hfz29_0 := blk_frozen BK122.out 0
                              have hfz29_1 := blk_frozen BK122.out 1
                              have hfz29_2 := blk_frozen BK122.out 2
                              go_wp2_with (first | ((with_reducible refine gate_callee (f := 27) rfl ?_); refine goesL_ (some 53) rfl rfl Tryd.func27 (by kernel_rfl) rfl #[.agg #[.int .i64 x4_1, .string (a0.extract ((ji22) : Int).toNat a0.size), .string x123002_10]] rfl (by (try simp only [List.map_toArray, List.map_cons, List.map_nil]); first | done | (simp only [hji22]; rfl) | rfl | (simp only [List.length_drop, List.length_take]; rfl)) ?_; (with_reducible refine (cubbyref21_Print.calls kj17 x4_1 (a0.extract ((ji22) : Int).toNat a0.size) x123002_10 t123 t124 _ ?side1 A25.out).mono ?_); (case side1 => exact GW_below hGA.out (by repeat (first | (with_reducible first | exact HB.out | apply below_alloc | apply pw_below_drewN | apply below_drew1 | refine below_set ?_ GE120.out | refine below_set ?_ GE122.out) | exact HB.out))); rintro e w30 ⟨rfl, hb⟩; refine ⟨_, rfl, ?_⟩; have n0_ := Aside0.mk (blk_below (g := gb120) (o := .cells #[.int .i64 x121000_1, .string x121001_1, .string x121002_1] 31 (0, 0)) (by (with_reducible repeat (first | refine blk_drewN ?_ _ | refine blk_drew ?_ | refine blk_alloc ?_ _)); refine blk_far ?_ NB120_122.out _; (with_reducible repeat (first | refine blk_drewN ?_ _ | refine blk_drew ?_ | refine blk_alloc ?_ _)); exact BK120.out) hb); have n1_ := Aside0.mk (blk_below (g := gb122) (o := .cells #[.int .i64 x4_1, .string (a0.extract ((ji22) : Int).toNat a0.size), .string x123002_10] 31 (0, 0)) (by (with_reducible repeat (first | refine blk_drewN ?_ _ | refine blk_drew ?_ | refine blk_alloc ?_ _)); refine blk_put (cs := #[.int .i64 x4_1, .string (⟨#[]⟩ : ByteArray), .string x123002_10]) ?_ 1 _ rfl; (with_reducible repeat (first | refine blk_drewN ?_ _ | refine blk_drew ?_ | refine blk_alloc ?_ _)); exact BK122.out) hb); have n2_ := Aside0.mk (below_step (by repeat (first | (with_reducible first | exact HB.out | apply below_alloc | apply pw_below_drewN | apply below_drew1 | refine below_set ?_ GE120.out | refine below_set ?_ GE122.out) | exact HB.out)) hb); clear BK120; clear BK122; clear HB; have BK120 := n0_; have BK122 := n1_; have HB := n2_; clear n0_ n1_ n2_; (try clear hb); (try clear hb2); (try clear hk); (try clear hi); have hcz31_0 : w30.cell? ⟨gb122, 0, none⟩ = some (.int .i64 x4_1) := (blk_cell BK122.out 0).trans rfl; have hcz31_1 : w30.cell? ⟨gb122, 1, none⟩ = some (.string (a0.extract ((ji22) : Int).toNat a0.size)) := (blk_cell BK122.out 1).trans rfl; have hcz31_2 : w30.cell? ⟨gb122, 2, none⟩ = some (.string x123002_10) := (blk_cell BK122.out 2).trans rfl; have hfz31_0 := blk_frozen BK122.out 0; have hfz31_1 := blk_frozen BK122.out 1; have hfz31_2 := blk_frozen BK122.out 2; have hcz32_0 : w30.cell? ⟨gb120, 0, none⟩ = some (.int .i64 x121000_1) := (blk_cell BK120.out 0).trans rfl; have hcz32_1 : w30.cell? ⟨gb120, 1, none⟩ = some (.string x121001_1) := (blk_cell BK120.out 1).trans rfl; have hcz32_2 : w30.cell? ⟨gb120, 2, none⟩ = some (.string x121002_1) := (blk_cell BK120.out 2).trans rfl; have hfz32_0 := blk_frozen BK120.out 0; have hfz32_1 := blk_frozen BK120.out 1; have hfz32_2 := blk_frozen BK120.out 2))
                              refine bodyPost_ret (results_ct rfl _ _ gb120 31 #[.int .i64 x4_1, .string (a0.extract ((ji22) : Int).toNat a0.size), .string x123002_10] (0, 0) _ rfl (by (with_reducible repeat (first | refine blk_drewN ?_ _ | refine blk_drew ?_ | refine blk_alloc ?_ _)); refine blk_put (cs := #[.int .i64 x4_1, .string (a0.extract ((ji22) : Int).toNat a0.size), .string x121002_1]) ?_ 2 _ rfl; (with_reducible repeat (first | refine blk_drewN ?_ _ | refine blk_drew ?_ | refine blk_alloc ?_ _)); refine blk_put (cs := #[.int .i64 x4_1, .string x121001_1, .string x121002_1]) ?_ 1 _ rfl; (with_reducible repeat (first | refine blk_drewN ?_ _ | refine blk_drew ?_ | refine blk_alloc ?_ _)); refine blk_put (cs := #[.int .i64 x121000_1, .string x121001_1, .string x121002_1]) ?_ 0 _ rfl; (with_reducible repeat (first | refine blk_drewN ?_ _ | refine blk_drew ?_ | refine blk_alloc ?_ _)); exact BK120.out) Tryd.underlying31 rfl (by kernel_rfl)) rfl ?_
                              exact ⟨by first | rfl | (simp [errW_none, errW_some] <;> rfl) | (simp only [← hji22]; first | rfl | (simp [errW_none, errW_some] <;> rfl)) | (simp [*, errW_none, errW_some] <;> rfl), by repeat (first | (with_reducible first | exact HB.out | apply below_alloc | apply pw_below_drewN | apply below_drew1 | refine below_set ?_ GE120.out | refine below_set ?_ GE122.out) | exact HB.out)⟩
                            · rw [if_neg c27] at H
                              have c27b0 : (t123.toList == a0.toList) = false := beq_eq_false_iff_ne.mpr c27
                              have c27b1 : (t123.toList != a0.toList) = true := bne_iff_ne.mpr c27
                              have H' := Aside0.mk H
                              clear H
                              have hnb33 := NB122_120.out
                              have hnc33 := NB120_122.out
                              have hcz34_0 : wc.cell? ⟨gb122, 0, none⟩ = some (.int .i64 x4_1) := (blk_cell BK122.out 0).trans rfl
                              have hcz34_1 : wc.cell? ⟨gb122, 1, none⟩ = some (.string (⟨#[]⟩ : ByteArray)) := (blk_cell BK122.out 1).trans rfl
                              have hcz34_2 : wc.cell? ⟨gb122, 2, none⟩ = some (.string x123002_10) := (blk_cell BK122.out 2).trans rfl
                              have hfz34_0 := blk_frozen BK122.out 0
                              have hfz34_1 := blk_frozen BK122.out 1
                              have hfz34_2 := blk_frozen BK122.out 2
                              go_wp2_with (first | ((with_reducible refine gate_callee (f := 27) rfl ?_); refine goesL_ (some 53) rfl rfl Tryd.func27 (by kernel_rfl) rfl #[.agg #[.int .i64 x4_1, .string (a0.extract ((ji22) : Int).toNat a0.size), .string x123002_10]] rfl (by (try simp only [List.map_toArray, List.map_cons, List.map_nil]); first | done | (simp only [hji22]; rfl) | rfl | (simp only [List.length_drop, List.length_take]; rfl)) ?_; (with_reducible refine (cubbyref21_Print.calls kj17 x4_1 (a0.extract ((ji22) : Int).toNat a0.size) x123002_10 t123 t124 _ ?side1 A25.out).mono ?_); (case side1 => exact GW_below hGA.out (by repeat (first | (with_reducible first | exact HB.out | apply below_alloc | apply pw_below_drewN | apply below_drew1 | refine below_set ?_ GE120.out | refine below_set ?_ GE122.out) | exact HB.out))); rintro e w35 ⟨rfl, hb⟩; refine ⟨_, rfl, ?_⟩; have n0_ := Aside0.mk (blk_below (g := gb120) (o := .cells #[.int .i64 x121000_1, .string x121001_1, .string x121002_1] 31 (0, 0)) (by (with_reducible repeat (first | refine blk_drewN ?_ _ | refine blk_drew ?_ | refine blk_alloc ?_ _)); refine blk_far ?_ NB120_122.out _; (with_reducible repeat (first | refine blk_drewN ?_ _ | refine blk_drew ?_ | refine blk_alloc ?_ _)); exact BK120.out) hb); have n1_ := Aside0.mk (blk_below (g := gb122) (o := .cells #[.int .i64 x4_1, .string (a0.extract ((ji22) : Int).toNat a0.size), .string x123002_10] 31 (0, 0)) (by (with_reducible repeat (first | refine blk_drewN ?_ _ | refine blk_drew ?_ | refine blk_alloc ?_ _)); refine blk_put (cs := #[.int .i64 x4_1, .string (⟨#[]⟩ : ByteArray), .string x123002_10]) ?_ 1 _ rfl; (with_reducible repeat (first | refine blk_drewN ?_ _ | refine blk_drew ?_ | refine blk_alloc ?_ _)); exact BK122.out) hb); have n2_ := Aside0.mk (below_step (by repeat (first | (with_reducible first | exact HB.out | apply below_alloc | apply pw_below_drewN | apply below_drew1 | refine below_set ?_ GE120.out | refine below_set ?_ GE122.out) | exact HB.out)) hb); clear BK120; clear BK122; clear HB; have BK120 := n0_; have BK122 := n1_; have HB := n2_; clear n0_ n1_ n2_; (try clear hb); (try clear hb2); (try clear hk); (try clear hi)))
                              go_roundg kj17
                              case measure => have := HK1.out; have := HJ4.out; have := HJ10.out; have := HJ17.out; omega
                              case rel => exact ⟨(wrap64 (x4_1 + 1)), (x121000_1), (x121001_1), (x121002_1), (by first | rfl | (simp; done) | (simp [*]; done)), H', ⟨by have := HK1.out; have := HJ4.out; have := HJ10.out; have := HJ17.out; omega⟩, ⟨by (with_reducible repeat (first | refine blk_drewN ?_ _ | refine blk_drew ?_ | refine blk_alloc ?_ _)); exact BK120.out⟩, ⟨by repeat (first | (with_reducible first | exact HB.out | apply below_alloc | apply pw_below_drewN | apply below_drew1 | refine below_set ?_ GE120.out | refine below_set ?_ GE122.out) | exact HB.out)⟩⟩
                          · rw [if_neg c26] at H
                            have c26b0 : (t124 == 0) = false := beq_eq_false_iff_ne.mpr c26
                            have c26b1 : (t124 != 0) = true := bne_iff_ne.mpr c26
                            have H' := Aside0.mk H
                            clear H
                            have hnb36 := NB122_120.out
                            have hnc36 := NB120_122.out
                            have hcz37_0 : wc.cell? ⟨gb122, 0, none⟩ = some (.int .i64 x4_1) := (blk_cell BK122.out 0).trans rfl
                            have hcz37_1 : wc.cell? ⟨gb122, 1, none⟩ = some (.string (⟨#[]⟩ : ByteArray)) := (blk_cell BK122.out 1).trans rfl
                            have hcz37_2 : wc.cell? ⟨gb122, 2, none⟩ = some (.string x123002_10) := (blk_cell BK122.out 2).trans rfl
                            have hfz37_0 := blk_frozen BK122.out 0
                            have hfz37_1 := blk_frozen BK122.out 1
                            have hfz37_2 := blk_frozen BK122.out 2
                            go_wp2_with (first | ((with_reducible refine gate_callee (f := 27) rfl ?_); refine goesL_ (some 53) rfl rfl Tryd.func27 (by kernel_rfl) rfl #[.agg #[.int .i64 x4_1, .string (a0.extract ((ji22) : Int).toNat a0.size), .string x123002_10]] rfl (by (try simp only [List.map_toArray, List.map_cons, List.map_nil]); first | done | (simp only [hji22]; rfl) | rfl | (simp only [List.length_drop, List.length_take]; rfl)) ?_; (with_reducible refine (cubbyref21_Print.calls kj17 x4_1 (a0.extract ((ji22) : Int).toNat a0.size) x123002_10 t123 t124 _ ?side1 A25.out).mono ?_); (case side1 => exact GW_below hGA.out (by repeat (first | (with_reducible first | exact HB.out | apply below_alloc | apply pw_below_drewN | apply below_drew1 | refine below_set ?_ GE120.out | refine below_set ?_ GE122.out) | exact HB.out))); rintro e w38 ⟨rfl, hb⟩; refine ⟨_, rfl, ?_⟩; have n0_ := Aside0.mk (blk_below (g := gb120) (o := .cells #[.int .i64 x121000_1, .string x121001_1, .string x121002_1] 31 (0, 0)) (by (with_reducible repeat (first | refine blk_drewN ?_ _ | refine blk_drew ?_ | refine blk_alloc ?_ _)); refine blk_far ?_ NB120_122.out _; (with_reducible repeat (first | refine blk_drewN ?_ _ | refine blk_drew ?_ | refine blk_alloc ?_ _)); exact BK120.out) hb); have n1_ := Aside0.mk (blk_below (g := gb122) (o := .cells #[.int .i64 x4_1, .string (a0.extract ((ji22) : Int).toNat a0.size), .string x123002_10] 31 (0, 0)) (by (with_reducible repeat (first | refine blk_drewN ?_ _ | refine blk_drew ?_ | refine blk_alloc ?_ _)); refine blk_put (cs := #[.int .i64 x4_1, .string (⟨#[]⟩ : ByteArray), .string x123002_10]) ?_ 1 _ rfl; (with_reducible repeat (first | refine blk_drewN ?_ _ | refine blk_drew ?_ | refine blk_alloc ?_ _)); exact BK122.out) hb); have n2_ := Aside0.mk (below_step (by repeat (first | (with_reducible first | exact HB.out | apply below_alloc | apply pw_below_drewN | apply below_drew1 | refine below_set ?_ GE120.out | refine below_set ?_ GE122.out) | exact HB.out)) hb); clear BK120; clear BK122; clear HB; have BK120 := n0_; have BK122 := n1_; have HB := n2_; clear n0_ n1_ n2_; (try clear hb); (try clear hb2); (try clear hk); (try clear hi)))
                            go_roundg kj17
                            case measure => have := HK1.out; have := HJ4.out; have := HJ10.out; have := HJ17.out; omega
                            case rel => exact ⟨(wrap64 (x4_1 + 1)), (x121000_1), (x121001_1), (x121002_1), (by first | rfl | (simp; done) | (simp [*]; done)), H', ⟨by have := HK1.out; have := HJ4.out; have := HJ10.out; have := HJ17.out; omega⟩, ⟨by (with_reducible repeat (first | refine blk_drewN ?_ _ | refine blk_drew ?_ | refine blk_alloc ?_ _)); exact BK120.out⟩, ⟨by repeat (first | (with_reducible first | exact HB.out | apply below_alloc | apply pw_below_drewN | apply below_drew1 | refine below_set ?_ GE120.out | refine below_set ?_ GE122.out) | exact HB.out)⟩⟩
                        · rw [if_neg c24] at H
                          exact absurd H (by simp)
                      · rw [if_neg c23] at H
                        exact absurd H (by simp)
                    · replace c21 := Bool.eq_false_iff.mpr c21
                      subst c21
                      have H1 : ((cubbyref21_Print.f kj17 x4_1 (⟨#[]⟩ : ByteArray) x123002_10).bind fun bt125 => (if bt125.2 = 0 then (if bt125.1.toList = a0.toList then (some (x4_1, (⟨#[]⟩ : ByteArray), x123002_10, 0)) else (cubbyref21_Parse.l0 kj17 a0 (wrap64 (x4_1 + 1)))) else (cubbyref21_Parse.l0 kj17 a0 (wrap64 (x4_1 + 1))))) = some (r1, r2, r3, r4) := by rw [if_neg (show ¬ (false = true) by decide)] at H; exact H
                      clear H
                      have H := H1
                      clear H1
                      replace H := Option.bind_eq_some_iff.mp H
                      obtain ⟨⟨t125, t126⟩, A390, H⟩ := H
                      replace H : (if t126 = 0 then (if t125.toList = a0.toList then (some (x4_1, (⟨#[]⟩ : ByteArray), x123002_10, 0)) else (cubbyref21_Parse.l0 kj17 a0 (wrap64 (x4_1 + 1)))) else (cubbyref21_Parse.l0 kj17 a0 (wrap64 (x4_1 + 1)))) = some (r1, r2, r3, r4) := H
                      have A39 := Aside0.mk A390
                      clear A390
                      by_cases c40 : t126 = 0
                      · rw [if_pos c40] at H
                        have c40b0 : (t126 == 0) = true := beq_iff_eq.mpr c40
                        have c40b1 : (t126 != 0) = false := bne_eq_false_iff_eq.mpr c40
                        clear c40
                        by_cases c41 : t125.toList = a0.toList
                        · rw [if_pos c41] at H
                          have c41b0 : (t125.toList == a0.toList) = true := beq_iff_eq.mpr c41
                          have c41b1 : (t125.toList != a0.toList) = false := bne_eq_false_iff_eq.mpr c41
                          clear c41
                          simp only [Option.some.injEq, Prod.mk.injEq] at H
                          obtain ⟨rfl, rfl, rfl, rfl⟩ := H
                          have hnb42 := NB122_120.out
                          have hnc42 := NB120_122.out
                          have hcz43_0 : wc.cell? ⟨gb122, 0, none⟩ = some (.int .i64 x4_1) := (blk_cell BK122.out 0).trans rfl
                          have hcz43_1 : wc.cell? ⟨gb122, 1, none⟩ = some (.string (⟨#[]⟩ : ByteArray)) := (blk_cell BK122.out 1).trans rfl
                          have hcz43_2 : wc.cell? ⟨gb122, 2, none⟩ = some (.string x123002_10) := (blk_cell BK122.out 2).trans rfl
                          have hfz43_0 := blk_frozen BK122.out 0
                          have hfz43_1 := blk_frozen BK122.out 1
                          have hfz43_2 := blk_frozen BK122.out 2
                          go_wp2_with (first | ((with_reducible refine gate_callee (f := 27) rfl ?_); refine goesL_ (some 53) rfl rfl Tryd.func27 (by kernel_rfl) rfl #[.agg #[.int .i64 x4_1, .string (⟨#[]⟩ : ByteArray), .string x123002_10]] rfl (by (try simp only [List.map_toArray, List.map_cons, List.map_nil]); first | done | rfl | (simp only [List.length_drop, List.length_take]; rfl)) ?_; (with_reducible refine (cubbyref21_Print.calls kj17 x4_1 (⟨#[]⟩ : ByteArray) x123002_10 t125 t126 _ ?side1 A39.out).mono ?_); (case side1 => exact GW_below hGA.out (by repeat (first | (with_reducible first | exact HB.out | apply below_alloc | apply pw_below_drewN | apply below_drew1 | refine below_set ?_ GE120.out | refine below_set ?_ GE122.out) | exact HB.out))); rintro e w44 ⟨rfl, hb⟩; refine ⟨_, rfl, ?_⟩; have n0_ := Aside0.mk (blk_below (g := gb120) (o := .cells #[.int .i64 x121000_1, .string x121001_1, .string x121002_1] 31 (0, 0)) (by (with_reducible repeat (first | refine blk_drewN ?_ _ | refine blk_drew ?_ | refine blk_alloc ?_ _)); exact BK120.out) hb); have n1_ := Aside0.mk (blk_below (g := gb122) (o := .cells #[.int .i64 x4_1, .string (⟨#[]⟩ : ByteArray), .string x123002_10] 31 (0, 0)) (by (with_reducible repeat (first | refine blk_drewN ?_ _ | refine blk_drew ?_ | refine blk_alloc ?_ _)); exact BK122.out) hb); have n2_ := Aside0.mk (below_step (by repeat (first | (with_reducible first | exact HB.out | apply below_alloc | apply pw_below_drewN | apply below_drew1 | refine below_set ?_ GE120.out | refine below_set ?_ GE122.out) | exact HB.out)) hb); clear BK120; clear BK122; clear HB; have BK120 := n0_; have BK122 := n1_; have HB := n2_; clear n0_ n1_ n2_; (try clear hb); (try clear hb2); (try clear hk); (try clear hi); have hcz45_0 : w44.cell? ⟨gb122, 0, none⟩ = some (.int .i64 x4_1) := (blk_cell BK122.out 0).trans rfl; have hcz45_1 : w44.cell? ⟨gb122, 1, none⟩ = some (.string (⟨#[]⟩ : ByteArray)) := (blk_cell BK122.out 1).trans rfl; have hcz45_2 : w44.cell? ⟨gb122, 2, none⟩ = some (.string x123002_10) := (blk_cell BK122.out 2).trans rfl; have hfz45_0 := blk_frozen BK122.out 0; have hfz45_1 := blk_frozen BK122.out 1; have hfz45_2 := blk_frozen BK122.out 2; have hcz46_0 : w44.cell? ⟨gb120, 0, none⟩ = some (.int .i64 x121000_1) := (blk_cell BK120.out 0).trans rfl; have hcz46_1 : w44.cell? ⟨gb120, 1, none⟩ = some (.string x121001_1) := (blk_cell BK120.out 1).trans rfl; have hcz46_2 : w44.cell? ⟨gb120, 2, none⟩ = some (.string x121002_1) := (blk_cell BK120.out 2).trans rfl; have hfz46_0 := blk_frozen BK120.out 0; have hfz46_1 := blk_frozen BK120.out 1; have hfz46_2 := blk_frozen BK120.out 2))
                          refine bodyPost_ret (results_ct rfl _ _ gb120 31 #[.int .i64 x4_1, .string (⟨#[]⟩ : ByteArray), .string x123002_10] (0, 0) _ rfl (by (with_reducible repeat (first | refine blk_drewN ?_ _ | refine blk_drew ?_ | refine blk_alloc ?_ _)); refine blk_put (cs := #[.int .i64 x4_1, .string (⟨#[]⟩ : ByteArray), .string x121002_1]) ?_ 2 _ rfl; (with_reducible repeat (first | refine blk_drewN ?_ _ | refine blk_drew ?_ | refine blk_alloc ?_ _)); refine blk_put (cs := #[.int .i64 x4_1, .string x121001_1, .string x121002_1]) ?_ 1 _ rfl; (with_reducible repeat (first | refine blk_drewN ?_ _ | refine blk_drew ?_ | refine blk_alloc ?_ _)); refine blk_put (cs := #[.int .i64 x121000_1, .string x121001_1, .string x121002_1]) ?_ 0 _ rfl; (with_reducible repeat (first | refine blk_drewN ?_ _ | refine blk_drew ?_ | refine blk_alloc ?_ _)); exact BK120.out) Tryd.underlying31 rfl (by kernel_rfl)) rfl ?_
                          exact ⟨by first | rfl | (simp [errW_none, errW_some] <;> rfl) | (simp [*, errW_none, errW_some] <;> rfl), by repeat (first | (with_reducible first | exact HB.out | apply below_alloc | apply pw_below_drewN | apply below_drew1 | refine below_set ?_ GE120.out | refine below_set ?_ GE122.out) | exact HB.out)⟩
                        · rw [if_neg c41] at H
                          have c41b0 : (t125.toList == a0.toList) = false := beq_eq_false_iff_ne.mpr c41
                          have c41b1 : (t125.toList != a0.toList) = true := bne_iff_ne.mpr c41
                          have H' := Aside0.mk H
                          clear H
                          have hnb47 := NB122_120.out
                          have hnc47 := NB120_122.out
                          have hcz48_0 : wc.cell? ⟨gb122, 0, none⟩ = some (.int .i64 x4_1) := (blk_cell BK122.out 0).trans rfl
                          have hcz48_1 : wc.cell? ⟨gb122, 1, none⟩ = some (.string (⟨#[]⟩ : ByteArray)) := (blk_cell BK122.out 1).trans rfl
                          have hcz48_2 : wc.cell? ⟨gb122, 2, none⟩ = some (.string x123002_10) := (blk_cell BK122.out 2).trans rfl
                          have hfz48_0 := blk_frozen BK122.out 0
                          have hfz48_1 := blk_frozen BK122.out 1
                          have hfz48_2 := blk_frozen BK122.out 2
                          go_wp2_with (first | ((with_reducible refine gate_callee (f := 27) rfl ?_); refine goesL_ (some 53) rfl rfl Tryd.func27 (by kernel_rfl) rfl #[.agg #[.int .i64 x4_1, .string (⟨#[]⟩ : ByteArray), .string x123002_10]] rfl (by (try simp only [List.map_toArray, List.map_cons, List.map_nil]); first | done | rfl | (simp only [List.length_drop, List.length_take]; rfl)) ?_; (with_reducible refine (cubbyref21_Print.calls kj17 x4_1 (⟨#[]⟩ : ByteArray) x123002_10 t125 t126 _ ?side1 A39.out).mono ?_); (case side1 => exact GW_below hGA.out (by repeat (first | (with_reducible first | exact HB.out | apply below_alloc | apply pw_below_drewN | apply below_drew1 | refine below_set ?_ GE120.out | refine below_set ?_ GE122.out) | exact HB.out))); rintro e w49 ⟨rfl, hb⟩; refine ⟨_, rfl, ?_⟩; have n0_ := Aside0.mk (blk_below (g := gb120) (o := .cells #[.int .i64 x121000_1, .string x121001_1, .string x121002_1] 31 (0, 0)) (by (with_reducible repeat (first | refine blk_drewN ?_ _ | refine blk_drew ?_ | refine blk_alloc ?_ _)); exact BK120.out) hb); have n1_ := Aside0.mk (blk_below (g := gb122) (o := .cells #[.int .i64 x4_1, .string (⟨#[]⟩ : ByteArray), .string x123002_10] 31 (0, 0)) (by (with_reducible repeat (first | refine blk_drewN ?_ _ | refine blk_drew ?_ | refine blk_alloc ?_ _)); exact BK122.out) hb); have n2_ := Aside0.mk (below_step (by repeat (first | (with_reducible first | exact HB.out | apply below_alloc | apply pw_below_drewN | apply below_drew1 | refine below_set ?_ GE120.out | refine below_set ?_ GE122.out) | exact HB.out)) hb); clear BK120; clear BK122; clear HB; have BK120 := n0_; have BK122 := n1_; have HB := n2_; clear n0_ n1_ n2_; (try clear hb); (try clear hb2); (try clear hk); (try clear hi)))
                          go_roundg kj17
                          case measure => have := HK1.out; have := HJ4.out; have := HJ10.out; have := HJ17.out; omega
                          case rel => exact ⟨(wrap64 (x4_1 + 1)), (x121000_1), (x121001_1), (x121002_1), (by first | rfl | (simp; done) | (simp [*]; done)), H', ⟨by have := HK1.out; have := HJ4.out; have := HJ10.out; have := HJ17.out; omega⟩, ⟨by (with_reducible repeat (first | refine blk_drewN ?_ _ | refine blk_drew ?_ | refine blk_alloc ?_ _)); exact BK120.out⟩, ⟨by repeat (first | (with_reducible first | exact HB.out | apply below_alloc | apply pw_below_drewN | apply below_drew1 | refine below_set ?_ GE120.out | refine below_set ?_ GE122.out) | exact HB.out)⟩⟩
                      · rw [if_neg c40] at H
                        have c40b0 : (t126 == 0) = false := beq_eq_false_iff_ne.mpr c40
                        have c40b1 : (t126 != 0) = true := bne_iff_ne.mpr c40
                        have H' := Aside0.mk H
                        clear H
                        have hnb50 := NB122_120.out
                        have hnc50 := NB120_122.out
                        have hcz51_0 : wc.cell? ⟨gb122, 0, none⟩ = some (.int .i64 x4_1) := (blk_cell BK122.out 0).trans rfl
                        have hcz51_1 : wc.cell? ⟨gb122, 1, none⟩ = some (.string (⟨#[]⟩ : ByteArray)) := (blk_cell BK122.out 1).trans rfl
                        have hcz51_2 : wc.cell? ⟨gb122, 2, none⟩ = some (.string x123002_10) := (blk_cell BK122.out 2).trans rfl
                        have hfz51_0 := blk_frozen BK122.out 0
                        have hfz51_1 := blk_frozen BK122.out 1
                        have hfz51_2 := blk_frozen BK122.out 2
                        go_wp2_with (first | ((with_reducible refine gate_callee (f := 27) rfl ?_); refine goesL_ (some 53) rfl rfl Tryd.func27 (by kernel_rfl) rfl #[.agg #[.int .i64 x4_1, .string (⟨#[]⟩ : ByteArray), .string x123002_10]] rfl (by (try simp only [List.map_toArray, List.map_cons, List.map_nil]); first | done | rfl | (simp only [List.length_drop, List.length_take]; rfl)) ?_; (with_reducible refine (cubbyref21_Print.calls kj17 x4_1 (⟨#[]⟩ : ByteArray) x123002_10 t125 t126 _ ?side1 A39.out).mono ?_); (case side1 => exact GW_below hGA.out (by repeat (first | (with_reducible first | exact HB.out | apply below_alloc | apply pw_below_drewN | apply below_drew1 | refine below_set ?_ GE120.out | refine below_set ?_ GE122.out) | exact HB.out))); rintro e w52 ⟨rfl, hb⟩; refine ⟨_, rfl, ?_⟩; have n0_ := Aside0.mk (blk_below (g := gb120) (o := .cells #[.int .i64 x121000_1, .string x121001_1, .string x121002_1] 31 (0, 0)) (by (with_reducible repeat (first | refine blk_drewN ?_ _ | refine blk_drew ?_ | refine blk_alloc ?_ _)); exact BK120.out) hb); have n1_ := Aside0.mk (blk_below (g := gb122) (o := .cells #[.int .i64 x4_1, .string (⟨#[]⟩ : ByteArray), .string x123002_10] 31 (0, 0)) (by (with_reducible repeat (first | refine blk_drewN ?_ _ | refine blk_drew ?_ | refine blk_alloc ?_ _)); exact BK122.out) hb); have n2_ := Aside0.mk (below_step (by repeat (first | (with_reducible first | exact HB.out | apply below_alloc | apply pw_below_drewN | apply below_drew1 | refine below_set ?_ GE120.out | refine below_set ?_ GE122.out) | exact HB.out)) hb); clear BK120; clear BK122; clear HB; have BK120 := n0_; have BK122 := n1_; have HB := n2_; clear n0_ n1_ n2_; (try clear hb); (try clear hb2); (try clear hk); (try clear hi)))
                        go_roundg kj17
                        case measure => have := HK1.out; have := HJ4.out; have := HJ10.out; have := HJ17.out; omega
                        case rel => exact ⟨(wrap64 (x4_1 + 1)), (x121000_1), (x121001_1), (x121002_1), (by first | rfl | (simp; done) | (simp [*]; done)), H', ⟨by have := HK1.out; have := HJ4.out; have := HJ10.out; have := HJ17.out; omega⟩, ⟨by (with_reducible repeat (first | refine blk_drewN ?_ _ | refine blk_drew ?_ | refine blk_alloc ?_ _)); exact BK120.out⟩, ⟨by repeat (first | (with_reducible first | exact HB.out | apply below_alloc | apply pw_below_drewN | apply below_drew1 | refine below_set ?_ GE120.out | refine below_set ?_ GE122.out) | exact HB.out)⟩⟩
      · rw [if_neg c3] at H
        have c3b0 : decide (x4_1 ≤ 9) = false := decide_eq_false c3
        clear c3
        simp only [Option.some.injEq, Prod.mk.injEq] at H
        obtain ⟨rfl, rfl, rfl, rfl⟩ := H
        have hcz53_0 : wr.cell? ⟨gb120, 0, none⟩ = some (.int .i64 x121000_1) := (blk_cell BK120.out 0).trans rfl
        have hcz53_1 : wr.cell? ⟨gb120, 1, none⟩ = some (.string x121001_1) := (blk_cell BK120.out 1).trans rfl
        have hcz53_2 : wr.cell? ⟨gb120, 2, none⟩ = some (.string x121002_1) := (blk_cell BK120.out 2).trans rfl
        have hfz53_0 := blk_frozen BK120.out 0
        have hfz53_1 := blk_frozen BK120.out 1
        have hfz53_2 := blk_frozen BK120.out 2
        go_wp2
        refine bodyPost_ret (results_ct rfl _ _ gb120 31 #[.int .i64 0, .string (⟨#[]⟩ : ByteArray), .string (⟨#[]⟩ : ByteArray)] (0, 0) _ rfl (by (with_reducible repeat (first | refine blk_drewN ?_ _ | refine blk_drew ?_ | refine blk_alloc ?_ _)); refine blk_put (cs := #[.int .i64 0, .string (⟨#[]⟩ : ByteArray), .string x121002_1]) ?_ 2 _ rfl; (with_reducible repeat (first | refine blk_drewN ?_ _ | refine blk_drew ?_ | refine blk_alloc ?_ _)); refine blk_put (cs := #[.int .i64 0, .string x121001_1, .string x121002_1]) ?_ 1 _ rfl; (with_reducible repeat (first | refine blk_drewN ?_ _ | refine blk_drew ?_ | refine blk_alloc ?_ _)); refine blk_put (cs := #[.int .i64 x121000_1, .string x121001_1, .string x121002_1]) ?_ 0 _ rfl; (with_reducible repeat (first | refine blk_drewN ?_ _ | refine blk_drew ?_ | refine blk_alloc ?_ _)); exact BK120.out) Tryd.underlying31 rfl (by kernel_rfl)) rfl ?_
        exact ⟨by first | rfl | (simp [errW_none, errW_some] <;> rfl) | (simp [*, errW_none, errW_some] <;> rfl), by repeat (first | (with_reducible first | exact HB.out | apply below_alloc | apply pw_below_drewN | apply below_drew1 | refine below_set ?_ GE120.out) | exact HB.out)⟩

/-! ### cubbyref21_words: function 28 -/
def cubbyref21_words.l0 : Nat → ByteArray → List ByteArray → Int → Int → Option (List ByteArray)
  | 0, _, _, _, _ => none
  | k + 1, x0, x3, x4, x5 => if x5 ≤ (x0.size : Int) then (if x5 = (x0.size : Int) then (if 0 ≤ x4 then (if x4 ≤ x5 then (if x3.length < 8796093022208 then (cubbyref21_words.l0 k x0 (x3 ++ [x0.extract (x4 : Int).toNat (x5 : Int).toNat]) (wrap64 (x5 + 1)) (wrap64 (x5 + 1))) else (none)) else (none)) else (none)) else (if 0 ≤ x5 then (if x5 < (x0.size : Int) then (if (bt x0 x5) = 32 then (if 0 ≤ x4 then (if x4 ≤ x5 then (if x3.length < 8796093022208 then (cubbyref21_words.l0 k x0 (x3 ++ [x0.extract (x4 : Int).toNat (x5 : Int).toNat]) (wrap64 (x5 + 1)) (wrap64 (x5 + 1))) else (none)) else (none)) else (none)) else (cubbyref21_words.l0 k x0 x3 x4 (wrap64 (x5 + 1)))) else (none)) else (none))) else (some x3)
def cubbyref21_words.f (k : Nat) (a0 : ByteArray) : Option (List ByteArray) := cubbyref21_words.l0 k a0 (([] : List ByteArray)) 0 0
theorem cubbyref21_words.mono_l : ∀ k, (∀ y0 y1 y2 y3, LeO (cubbyref21_words.l0 k y0 y1 y2 y3) (cubbyref21_words.l0 (k + 1) y0 y1 y2 y3))
  | 0 => fun _ _ _ _ r h => by simp [cubbyref21_words.l0] at h
  | k + 1 => by
    have ih0 := cubbyref21_words.mono_l k
    · intro y0 y1 y2 y3
      unfold cubbyref21_words.l0
      repeat' first
      | (with_reducible exact ih0 _ _ _ _)
      | (with_reducible exact LeO.refl _)
      | (with_reducible exact LeO.none _)
      | (with_reducible refine LeO.ite ?_ ?_)
      | (with_reducible refine LeO.bind ?_ (fun _ => ?_))
      | exact ih0 _ _ _ _
      | exact LeO.none _
      | refine LeO.ite ?_ ?_
      | refine LeO.bind ?_ (fun _ => ?_)
theorem cubbyref21_words.mono : ∀ a0 k, LeO (cubbyref21_words.f k a0) (cubbyref21_words.f (k + 1) a0) := by
  intro a0 k
  have ih0 := cubbyref21_words.mono_l k
  unfold cubbyref21_words.f
  repeat' first
      | (with_reducible exact ih0 _ _ _ _)
      | (with_reducible exact LeO.refl _)
      | (with_reducible exact LeO.none _)
      | (with_reducible refine LeO.ite ?_ ?_)
      | (with_reducible refine LeO.bind ?_ (fun _ => ?_))
      | exact ih0 _ _ _ _
      | exact LeO.none _
      | refine LeO.ite ?_ ?_
      | refine LeO.bind ?_ (fun _ => ?_)
set_option maxHeartbeats 8000000 in
set_option maxRecDepth 100000 in
theorem cubbyref21_words.calls (k : Nat) (a0 : ByteArray) (r : List ByteArray) (w : World) (hG : GW w) (h : cubbyref21_words.f k a0 = some r) :
    Calls Tryd.prog 28 #[.string a0] w fun e w' => ∃ v0_ : Value, e = .returned (v0_) ∧ Kd.R Kd.string 9 w' w.heap.size (fun _ => True) v0_ r ∧ Below w.heap.size w w' := by
  have hGA := Aside0.mk hG
  clear hG
  have HB := Aside0.mk (Below.refl w.heap.size w)
  have H : (cubbyref21_words.l0 k a0 (([] : List ByteArray)) 0 0) = some r := h
  clear h
  obtain ⟨y127, hy127⟩ : ∃ y_ : List ByteArray, y_ = (([] : List ByteArray)) := ⟨_, rfl⟩
  replace H : (cubbyref21_words.l0 k a0 y127 0 0) = some r := by first | (rw [hy127]; with_reducible exact H) | (have H2_ := (Option.bind_some _ _).symm.trans H; rw [hy127]; with_reducible exact H2_) | (have H2_ := (Option.bind_some _ _).symm.trans H; with_reducible exact H2_) | with_reducible exact H | (rw [hy127]; exact H) | exact H
  have Ny127 := Aside0.mk hy127
  clear hy127
  have H' := Aside0.mk H
  clear H
  go_enter Tryd.func28, Tryd.ntmps28
  go_wp2_with (first | ((with_reducible refine gate_dst (N := 6) rfl ?_); refine Kd.R_lit Kd.string _ 9 ?hg (N := 6) ?hd (xs := ([] : List ByteArray)) (inner := []) (ok := fun _ => True) (okp := fun _ => True) ?hr ?hp (fun _ hk => hk) trivial (Below.refl _ _) (Nat.le_refl _) (by simp) ?_; (case hd => rfl); (case hg => rfl); (case hr => first | (go_simp; done) | (go_simp; rfl)); (case hp => exact (Reps.none _ _)); intro v128 w2 ho3 hb hg_ hnew_; clear hg_ hnew_; (first | rw [← Ny127.out] at ho3 | (simp only [Int.reduceToNat] at ho3; rw [← Ny127.out] at ho3)); have n0_ := Aside0.mk (Kd.R_lower ho3 (below_size (by repeat (first | (with_reducible first | exact HB.out | apply below_alloc | apply pw_below_drewN | apply below_drew1) | exact HB.out)))); have n1_ := Aside0.mk (below_step (by repeat (first | (with_reducible first | exact HB.out | apply below_alloc | apply pw_below_drewN | apply below_drew1) | exact HB.out)) hb); clear HB; have HO129 := n0_; have HB := n1_; clear n0_ n1_; clear hb ho3))
  go_loopg [3, 4, 5] k (fun kq v3 v4 v5 w' => ∃ (x3_1 : List ByteArray) (x4_1 : Int) (x5_1 : Int), v4 = .int .i64 x4_1 ∧ v5 = .int .i64 x5_1 ∧ Aside0 (cubbyref21_words.l0 kq a0 x3_1 x4_1 x5_1 = some r) ∧ Aside0 (kq ≤ k) ∧ Aside0 (Kd.R Kd.string 9 w' w.heap.size (fun _ => True) v3 x3_1) ∧ Aside0 (Below w.heap.size w w'))
  case atStart => exact ⟨(y127), (0), (0), (by first | rfl | (simp; done) | (simp [*]; done)), (by first | rfl | (simp; done) | (simp [*]; done)), H', ⟨Nat.le_refl _⟩, ⟨by (with_reducible repeat (first | apply Kd.R_alloc | apply Kd.R_drewN | apply Kd.R_drew)); exact HO129.out⟩, ⟨by repeat (first | (with_reducible first | exact HB.out | apply below_alloc | apply pw_below_drewN | apply below_drew1) | exact HB.out)⟩⟩
  case round =>
    clear H'
    try clear c2
    try clear p2
    obtain ⟨x3_1, x4_1, x5_1, rfl, rfl, HA, HK1, HO_3, HB⟩ := hrel
    cases gk with
    | zero => exact absurd HA.out (by simp [cubbyref21_words.l0])
    | succ k1 =>
      have H := HA.out
      clear HA
      simp only [cubbyref21_words.l0] at H
      by_cases c4 : x5_1 ≤ (a0.size : Int)
      · rw [if_pos c4] at H
        have c4b0 : decide (x5_1 ≤ (a0.size : Int)) = true := decide_eq_true c4
        clear c4
        by_cases c5 : x5_1 = (a0.size : Int)
        · rw [if_pos c5] at H
          have c5b0 : (x5_1 == (a0.size : Int)) = true := beq_iff_eq.mpr c5
          have c5b1 : (x5_1 != (a0.size : Int)) = false := bne_eq_false_iff_eq.mpr c5
          clear c5
          by_cases c6 : 0 ≤ x4_1
          · rw [if_pos c6] at H
            have c6b0 := eq_true c6
            have c6b1 : decide (0 ≤ x4_1) = true := decide_eq_true c6
            clear c6
            by_cases c7 : x4_1 ≤ x5_1
            · rw [if_pos c7] at H
              have c7b0 := eq_true c7
              have c7b1 : decide (x4_1 ≤ x5_1) = true := decide_eq_true c7
              clear c7
              have c8b0 := eq_true (of_decide_eq_true (by first | (with_reducible assumption) | assumption) : x5_1 ≤ (a0.size : Int))
              by_cases c9 : x3_1.length < 8796093022208
              · rw [if_pos c9] at H
                have LMc9 := Aside0.mk c9
                clear c9
                obtain ⟨y130, hy130⟩ : ∃ y_ : List ByteArray, y_ = (x3_1 ++ [a0.extract (x4_1 : Int).toNat (x5_1 : Int).toNat]) := ⟨_, rfl⟩
                replace H : (cubbyref21_words.l0 k1 a0 y130 (wrap64 (x5_1 + 1)) (wrap64 (x5_1 + 1))) = some r := by first | (rw [hy130]; with_reducible exact H) | (have H2_ := (Option.bind_some _ _).symm.trans H; rw [hy130]; with_reducible exact H2_) | (have H2_ := (Option.bind_some _ _).symm.trans H; with_reducible exact H2_) | with_reducible exact H | (rw [hy130]; exact H) | exact H
                have Ny130 := Aside0.mk hy130
                clear hy130
                have H' := Aside0.mk H
                clear H
                go_wp2_with (first | ((with_reducible refine gate_builtin (b := .append) (xs := #[.tmp 23, .tmp 28]) rfl ?_); at_builtin; refine Kd.R_append Kd.string (w0 := w) w.heap.size rfl (.tmp 23) (.tmp 28) 64 9 (.string ⟨#[]⟩) 16 rfl Tryd.underlying64 info9 rfl (by decide) (by omega) u3 x3_1 (a0.extract (x4_1 : Int).toNat (x5_1 : Int).toNat) [.string (a0.extract (x4_1 : Int).toNat (x5_1 : Int).toNat)] (fun _ => True) (fun _ => False) rfl rfl ?aP (fun _ hk => hk.elim) ?aF ?aO ?aB ?aS ?aL ?_; (case aP => exact rfl); (case aB => exact (by repeat (first | (with_reducible first | exact HB.out | apply below_alloc | apply pw_below_drewN | apply below_drew1) | exact HB.out))); (case aF => exact (fun _ _ => trivial)); (case aO => exact (by (with_reducible repeat (first | apply Kd.R_alloc | apply Kd.R_drewN | apply Kd.R_drew)); exact HO_3.out)); (case aS => exact (below_size (by repeat (first | (with_reducible first | exact HB.out | apply below_alloc | apply pw_below_drewN | apply below_drew1) | exact HB.out)))); (case aL => have := LMc9.out; omega); intro v131 w10 ho hb hg hat; rw [← Ny130.out] at ho; have n0_ := Aside0.mk (hb); have n1_ := Aside0.mk (ho); clear HB; clear HO_3; have HB := n0_; have HO132 := n1_; clear n0_ n1_; clear ho hb hg hat))
                go_roundg k1
                case measure => have := HK1.out; omega
                case rel => exact ⟨(y130), (wrap64 (x5_1 + 1)), (wrap64 (x5_1 + 1)), (by first | rfl | (simp; done) | (simp [*]; done)), (by first | rfl | (simp; done) | (simp [*]; done)), H', ⟨by have := HK1.out; omega⟩, ⟨by (with_reducible repeat (first | apply Kd.R_alloc | apply Kd.R_drewN | apply Kd.R_drew)); exact HO132.out⟩, ⟨by repeat (first | (with_reducible first | exact HB.out | apply below_alloc | apply pw_below_drewN | apply below_drew1) | exact HB.out)⟩⟩
              · rw [if_neg c9] at H
                exact absurd H (by simp)
            · rw [if_neg c7] at H
              exact absurd H (by simp)
          · rw [if_neg c6] at H
            exact absurd H (by simp)
        · rw [if_neg c5] at H
          have c5b0 : (x5_1 == (a0.size : Int)) = false := beq_eq_false_iff_ne.mpr c5
          have c5b1 : (x5_1 != (a0.size : Int)) = true := bne_iff_ne.mpr c5
          by_cases c11 : 0 ≤ x5_1
          · rw [if_pos c11] at H
            have c11b0 : decide (0 ≤ x5_1) = true := decide_eq_true c11
            clear c11
            by_cases c12 : x5_1 < (a0.size : Int)
            · rw [if_pos c12] at H
              have c12b0 : decide (x5_1 < (a0.size : Int)) = true := decide_eq_true c12
              clear c12
              by_cases c14 : (bt a0 x5_1) = 32
              · rw [if_pos c14] at H
                have c14b0 : ((bt a0 x5_1) == 32) = true := beq_iff_eq.mpr c14
                have c14b1 : ((bt a0 x5_1) != 32) = false := bne_eq_false_iff_eq.mpr c14
                clear c14
                by_cases c15 : 0 ≤ x4_1
                · rw [if_pos c15] at H
                  have c15b0 := eq_true c15
                  have c15b1 : decide (0 ≤ x4_1) = true := decide_eq_true c15
                  clear c15
                  by_cases c16 : x4_1 ≤ x5_1
                  · rw [if_pos c16] at H
                    have c16b0 := eq_true c16
                    have c16b1 : decide (x4_1 ≤ x5_1) = true := decide_eq_true c16
                    clear c16
                    have c17b0 := eq_true (of_decide_eq_true (by first | (with_reducible assumption) | assumption) : x5_1 ≤ (a0.size : Int))
                    by_cases c18 : x3_1.length < 8796093022208
                    · rw [if_pos c18] at H
                      have LMc18 := Aside0.mk c18
                      clear c18
                      obtain ⟨y133, hy133⟩ : ∃ y_ : List ByteArray, y_ = (x3_1 ++ [a0.extract (x4_1 : Int).toNat (x5_1 : Int).toNat]) := ⟨_, rfl⟩
                      replace H : (cubbyref21_words.l0 k1 a0 y133 (wrap64 (x5_1 + 1)) (wrap64 (x5_1 + 1))) = some r := by first | (rw [hy133]; with_reducible exact H) | (have H2_ := (Option.bind_some _ _).symm.trans H; rw [hy133]; with_reducible exact H2_) | (have H2_ := (Option.bind_some _ _).symm.trans H; with_reducible exact H2_) | with_reducible exact H | (rw [hy133]; exact H) | exact H
                      have Ny133 := Aside0.mk hy133
                      clear hy133
                      have H' := Aside0.mk H
                      clear H
                      have p13 : 0 ≤ (x5_1 : Int) := of_decide_eq_true (by first | (with_reducible assumption) | assumption)
                      have q13 : x5_1 < (a0.size : Int) := of_decide_eq_true (by first | (with_reducible assumption) | assumption)
                      have hx13 := bt_at a0 x5_1
                      replace p13 := eq_true p13
                      replace q13 := eq_true q13
                      go_wp2_with (first | ((with_reducible refine gate_builtin (b := .append) (xs := #[.tmp 23, .tmp 28]) rfl ?_); at_builtin; refine Kd.R_append Kd.string (w0 := w) w.heap.size rfl (.tmp 23) (.tmp 28) 64 9 (.string ⟨#[]⟩) 16 rfl Tryd.underlying64 info9 rfl (by decide) (by omega) u3 x3_1 (a0.extract (x4_1 : Int).toNat (x5_1 : Int).toNat) [.string (a0.extract (x4_1 : Int).toNat (x5_1 : Int).toNat)] (fun _ => True) (fun _ => False) rfl rfl ?aP (fun _ hk => hk.elim) ?aF ?aO ?aB ?aS ?aL ?_; (case aP => exact rfl); (case aB => exact (by repeat (first | (with_reducible first | exact HB.out | apply below_alloc | apply pw_below_drewN | apply below_drew1) | exact HB.out))); (case aF => exact (fun _ _ => trivial)); (case aO => exact (by (with_reducible repeat (first | apply Kd.R_alloc | apply Kd.R_drewN | apply Kd.R_drew)); exact HO_3.out)); (case aS => exact (below_size (by repeat (first | (with_reducible first | exact HB.out | apply below_alloc | apply pw_below_drewN | apply below_drew1) | exact HB.out)))); (case aL => have := LMc18.out; omega); intro v134 w19 ho hb hg hat; rw [← Ny133.out] at ho; have n0_ := Aside0.mk (hb); have n1_ := Aside0.mk (ho); clear HB; clear HO_3; have HB := n0_; have HO135 := n1_; clear n0_ n1_; clear ho hb hg hat))
                      go_roundg k1
                      case measure => have := HK1.out; omega
                      case rel => exact ⟨(y133), (wrap64 (x5_1 + 1)), (wrap64 (x5_1 + 1)), (by first | rfl | (simp; done) | (simp [*]; done)), (by first | rfl | (simp; done) | (simp [*]; done)), H', ⟨by have := HK1.out; omega⟩, ⟨by (with_reducible repeat (first | apply Kd.R_alloc | apply Kd.R_drewN | apply Kd.R_drew)); exact HO135.out⟩, ⟨by repeat (first | (with_reducible first | exact HB.out | apply below_alloc | apply pw_below_drewN | apply below_drew1) | exact HB.out)⟩⟩
                    · rw [if_neg c18] at H
                      exact absurd H (by simp)
                  · rw [if_neg c16] at H
                    exact absurd H (by simp)
                · rw [if_neg c15] at H
                  exact absurd H (by simp)
              · rw [if_neg c14] at H
                have c14b0 : ((bt a0 x5_1) == 32) = false := beq_eq_false_iff_ne.mpr c14
                have c14b1 : ((bt a0 x5_1) != 32) = true := bne_iff_ne.mpr c14
                have H' := Aside0.mk H
                clear H
                have p13 : 0 ≤ (x5_1 : Int) := of_decide_eq_true (by first | (with_reducible assumption) | assumption)
                have q13 : x5_1 < (a0.size : Int) := of_decide_eq_true (by first | (with_reducible assumption) | assumption)
                have hx13 := bt_at a0 x5_1
                replace p13 := eq_true p13
                replace q13 := eq_true q13
                go_wp2
                go_roundg k1
                case measure => have := HK1.out; omega
                case rel => exact ⟨(x3_1), (x4_1), (wrap64 (x5_1 + 1)), (by first | rfl | (simp; done) | (simp [*]; done)), (by first | rfl | (simp; done) | (simp [*]; done)), H', ⟨by have := HK1.out; omega⟩, ⟨by (with_reducible repeat (first | apply Kd.R_alloc | apply Kd.R_drewN | apply Kd.R_drew)); exact HO_3.out⟩, ⟨by repeat (first | (with_reducible first | exact HB.out | apply below_alloc | apply pw_below_drewN | apply below_drew1) | exact HB.out)⟩⟩
            · rw [if_neg c12] at H
              exact absurd H (by simp)
          · rw [if_neg c11] at H
            exact absurd H (by simp)
      · rw [if_neg c4] at H
        have c4b0 : decide (x5_1 ≤ (a0.size : Int)) = false := decide_eq_false c4
        clear c4
        obtain rfl := Option.some.inj H
        go_wp2
        go_ret
        exact ⟨_, by first | rfl | (simp [errW_none, errW_some] <;> rfl) | (simp [*, errW_none, errW_some] <;> rfl), by (with_reducible repeat (first | apply Kd.R_alloc | apply Kd.R_drewN | apply Kd.R_drew)); exact HO_3.out, by repeat (first | (with_reducible first | exact HB.out | apply below_alloc | apply pw_below_drewN | apply below_drew1) | exact HB.out)⟩

end Go.Proofs.YtfibkajflenekaaDoor.PAsk
