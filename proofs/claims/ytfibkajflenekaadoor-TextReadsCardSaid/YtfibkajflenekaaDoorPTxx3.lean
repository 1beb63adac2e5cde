-- PRINTED by print.py (a twelfth state) out of the translation. Not trusted: Lean checks it.
import Derived.Test.YtfibkajflenekaaDoorPTxx0
namespace Go.Proofs.YtfibkajflenekaaDoor.PTx
open Go.Proofs.YtfibkajflenekaaDoor.G
open Go.RowKit Go.Proofs.YtfibkajflenekaaDoorW.PrintWords Go.Proofs.YtfibkajflenekaaDoorW.PrintLast
set_option linter.unusedVariables false
set_option linter.unusedSimpArgs false

/-! ### cubbyref08_word: function 46 -/
mutual
def cubbyref08_word.j0 : Nat → Int → Bool → List ByteArray → Bool → Option (ByteArray)
 | 0, _, _, _, _ => none
 | k + 1, x0, x1, x5, x14 => if x14 = true then (if 0 ≤ x0 then (if x0 < (x5.length : Int) then (some (rdOf ByteArray.empty x5 x0)) else (none)) else (none)) else (if x1 = true then (cubbyref08_word.j1 k x0 x1 (x0 == 21)) else (cubbyref08_word.j1 k x0 x1 false))
def cubbyref08_word.j1 : Nat → Int → Bool → Bool → Option (ByteArray)
 | 0, _, _, _ => none
 | k + 1, x0, x1, x23 => if x23 = true then (some (⟨#[102, 101, 116, 99, 104]⟩ : ByteArray)) else (if x1 = true then (if x0 = 22 then (some (⟨#[115, 97, 118, 101]⟩ : ByteArray)) else (some (⟨#[]⟩ : ByteArray))) else (some (⟨#[]⟩ : ByteArray)))
end
def cubbyref08_word.f (k : Nat) (a0 : Int) (a1 : Bool) : Option (ByteArray) := (some (([(⟨#[]⟩ : ByteArray), (⟨#[99, 111, 110, 115, 116]⟩ : ByteArray), (⟨#[99, 111, 112, 121]⟩ : ByteArray), (⟨#[97, 100, 100]⟩ : ByteArray), (⟨#[115, 117, 98]⟩ : ByteArray), (⟨#[109, 117, 108]⟩ : ByteArray), (⟨#[108, 101, 115, 115]⟩ : ByteArray), (⟨#[100, 105, 118]⟩ : ByteArray), (⟨#[108, 111, 97, 100]⟩ : ByteArray), (⟨#[115, 116, 111, 114, 101]⟩ : ByteArray), (⟨#[111, 117, 116]⟩ : ByteArray), (⟨#[99, 97, 108, 108]⟩ : ByteArray), (⟨#[106, 117, 109, 112]⟩ : ByteArray), (⟨#[98, 114, 97, 110, 99, 104]⟩ : ByteArray), (⟨#[114, 101, 116]⟩ : ByteArray)] : List ByteArray) : List ByteArray)).bind fun y122 => (if a0 ≥ 0 then (cubbyref08_word.j0 k a0 a1 y122 (decide (a0 < (y122.length : Int)))) else (cubbyref08_word.j0 k a0 a1 y122 false))
theorem cubbyref08_word.mono_l : ∀ k, (∀ y0 y1 y2 y3, LeO (cubbyref08_word.j0 k y0 y1 y2 y3) (cubbyref08_word.j0 (k + 1) y0 y1 y2 y3)) ∧ (∀ y0 y1 y2, LeO (cubbyref08_word.j1 k y0 y1 y2) (cubbyref08_word.j1 (k + 1) y0 y1 y2))
 | 0 => ⟨fun _ _ _ _ r h => by simp [cubbyref08_word.j0] at h, fun _ _ _ r h => by simp [cubbyref08_word.j1] at h⟩
 | k + 1 => by
  obtain ⟨ih0, ih1⟩ := cubbyref08_word.mono_l k
  refine ⟨?_, ?_⟩
  ·intro y0 y1 y2 y3
   unfold cubbyref08_word.j0
   repeat' first
   | (with_reducible exact ih0 _ _ _ _)
   | (with_reducible exact ih1 _ _ _)
   | (with_reducible exact LeO.refl _)
   | (with_reducible exact LeO.none _)
   | (with_reducible refine LeO.ite ?_ ?_)
   | (with_reducible refine LeO.bind ?_ (fun _ => ?_))
   | exact ih0 _ _ _ _
   | exact ih1 _ _ _
   | exact LeO.none _
   | refine LeO.ite ?_ ?_
   | refine LeO.bind ?_ (fun _ => ?_)
  ·intro y0 y1 y2
   unfold cubbyref08_word.j1
   repeat' first
   | (with_reducible exact ih0 _ _ _ _)
   | (with_reducible exact ih1 _ _ _)
   | (with_reducible exact LeO.refl _)
   | (with_reducible exact LeO.none _)
   | (with_reducible refine LeO.ite ?_ ?_)
   | (with_reducible refine LeO.bind ?_ (fun _ => ?_))
   | exact ih0 _ _ _ _
   | exact ih1 _ _ _
   | exact LeO.none _
   | refine LeO.ite ?_ ?_
   | refine LeO.bind ?_ (fun _ => ?_)
theorem cubbyref08_word.mono : ∀ a0 a1 k, LeO (cubbyref08_word.f k a0 a1) (cubbyref08_word.f (k + 1) a0 a1) := by
 intro a0 a1 k
 obtain ⟨ih0, ih1⟩ := cubbyref08_word.mono_l k
 unfold cubbyref08_word.f
 repeat' first
   | (with_reducible exact ih0 _ _ _ _)
   | (with_reducible exact ih1 _ _ _)
   | (with_reducible exact LeO.refl _)
   | (with_reducible exact LeO.none _)
   | (with_reducible refine LeO.ite ?_ ?_)
   | (with_reducible refine LeO.bind ?_ (fun _ => ?_))
   | exact ih0 _ _ _ _
   | exact ih1 _ _ _
   | exact LeO.none _
   | refine LeO.ite ?_ ?_
   | refine LeO.bind ?_ (fun _ => ?_)
set_option maxHeartbeats 8000000 in
set_option maxRecDepth 100000 in
theorem cubbyref08_word.calls (k : Nat) (a0 : Int) (a1 : Bool) (r : ByteArray) (w : World) (hG : GW w) (h : cubbyref08_word.f k a0 a1 = some r) :
  Calls Tryd.prog 46 #[.int .i64 a0, .bool a1] w fun e w' => e = .returned (.string r) ∧ Below w.heap.size w w' := by
 have hGA := Aside0.mk hG
 clear hG
 have HB := Aside0.mk (Below.refl w.heap.size w)
 have H : ((some (([(⟨#[]⟩ : ByteArray), (⟨#[99, 111, 110, 115, 116]⟩ : ByteArray), (⟨#[99, 111, 112, 121]⟩ : ByteArray), (⟨#[97, 100, 100]⟩ : ByteArray), (⟨#[115, 117, 98]⟩ : ByteArray), (⟨#[109, 117, 108]⟩ : ByteArray), (⟨#[108, 101, 115, 115]⟩ : ByteArray), (⟨#[100, 105, 118]⟩ : ByteArray), (⟨#[108, 111, 97, 100]⟩ : ByteArray), (⟨#[115, 116, 111, 114, 101]⟩ : ByteArray), (⟨#[111, 117, 116]⟩ : ByteArray), (⟨#[99, 97, 108, 108]⟩ : ByteArray), (⟨#[106, 117, 109, 112]⟩ : ByteArray), (⟨#[98, 114, 97, 110, 99, 104]⟩ : ByteArray), (⟨#[114, 101, 116]⟩ : ByteArray)] : List ByteArray) : List ByteArray)).bind fun y122 => (if a0 ≥ 0 then (cubbyref08_word.j0 k a0 a1 y122 (decide (a0 < (y122.length : Int)))) else (cubbyref08_word.j0 k a0 a1 y122 false))) = some r := h
 clear h
 obtain ⟨y122, hy122⟩ : ∃ y_ : List ByteArray, y_ = (([(⟨#[]⟩ : ByteArray), (⟨#[99, 111, 110, 115, 116]⟩ : ByteArray), (⟨#[99, 111, 112, 121]⟩ : ByteArray), (⟨#[97, 100, 100]⟩ : ByteArray), (⟨#[115, 117, 98]⟩ : ByteArray), (⟨#[109, 117, 108]⟩ : ByteArray), (⟨#[108, 101, 115, 115]⟩ : ByteArray), (⟨#[100, 105, 118]⟩ : ByteArray), (⟨#[108, 111, 97, 100]⟩ : ByteArray), (⟨#[115, 116, 111, 114, 101]⟩ : ByteArray), (⟨#[111, 117, 116]⟩ : ByteArray), (⟨#[99, 97, 108, 108]⟩ : ByteArray), (⟨#[106, 117, 109, 112]⟩ : ByteArray), (⟨#[98, 114, 97, 110, 99, 104]⟩ : ByteArray), (⟨#[114, 101, 116]⟩ : ByteArray)] : List ByteArray)) := ⟨_, rfl⟩
 replace H : (if a0 ≥ 0 then (cubbyref08_word.j0 k a0 a1 y122 (decide (a0 < (y122.length : Int)))) else (cubbyref08_word.j0 k a0 a1 y122 false)) = some r := by first | (rw [hy122]; with_reducible exact H) | (have H2_ := (Option.bind_some _ _).symm.trans H; rw [hy122]; with_reducible exact H2_) | (have H2_ := (Option.bind_some _ _).symm.trans H; with_reducible exact H2_) | with_reducible exact H | (rw [hy122]; exact H) | exact H
 have Ny122 := Aside0.mk hy122
 clear hy122
 have HC3 := Aside0.mk H
 clear H
 go_enter Tryd.func46, Tryd.ntmps46
 go_upto_region 2 with (first | ((with_reducible refine gate_dst (N := 6) rfl ?_); (try (refine gate_guard (by rfl) ?_; dsimp only)); refine Kd.R_lit Kd.string _ 9 ?hg (N := 6) ?hd (xs := ([(⟨#[]⟩ : ByteArray), (⟨#[99, 111, 110, 115, 116]⟩ : ByteArray), (⟨#[99, 111, 112, 121]⟩ : ByteArray), (⟨#[97, 100, 100]⟩ : ByteArray), (⟨#[115, 117, 98]⟩ : ByteArray), (⟨#[109, 117, 108]⟩ : ByteArray), (⟨#[108, 101, 115, 115]⟩ : ByteArray), (⟨#[100, 105, 118]⟩ : ByteArray), (⟨#[108, 111, 97, 100]⟩ : ByteArray), (⟨#[115, 116, 111, 114, 101]⟩ : ByteArray), (⟨#[111, 117, 116]⟩ : ByteArray), (⟨#[99, 97, 108, 108]⟩ : ByteArray), (⟨#[106, 117, 109, 112]⟩ : ByteArray), (⟨#[98, 114, 97, 110, 99, 104]⟩ : ByteArray), (⟨#[114, 101, 116]⟩ : ByteArray)] : List ByteArray)) (inner := [.string (⟨#[]⟩ : ByteArray), .string (⟨#[99, 111, 110, 115, 116]⟩ : ByteArray), .string (⟨#[99, 111, 112, 121]⟩ : ByteArray), .string (⟨#[97, 100, 100]⟩ : ByteArray), .string (⟨#[115, 117, 98]⟩ : ByteArray), .string (⟨#[109, 117, 108]⟩ : ByteArray), .string (⟨#[108, 101, 115, 115]⟩ : ByteArray), .string (⟨#[100, 105, 118]⟩ : ByteArray), .string (⟨#[108, 111, 97, 100]⟩ : ByteArray), .string (⟨#[115, 116, 111, 114, 101]⟩ : ByteArray), .string (⟨#[111, 117, 116]⟩ : ByteArray), .string (⟨#[99, 97, 108, 108]⟩ : ByteArray), .string (⟨#[106, 117, 109, 112]⟩ : ByteArray), .string (⟨#[98, 114, 97, 110, 99, 104]⟩ : ByteArray), .string (⟨#[114, 101, 116]⟩ : ByteArray)]) (ok := fun _ => True) (okp := fun _ => True) ?hr ?hp (fun _ hk => hk) trivial (Below.refl _ _) (Nat.le_refl _) (by simp) ?_; (case hd => rfl); (case hg => rfl); (case hr => first | (go_simp; done) | (go_simp; rfl)); (case hp => exact (Reps.one (show Kd.M Kd.string _ _ _ (⟨#[]⟩ : ByteArray) [.string (⟨#[]⟩ : ByteArray)] from rfl) (Reps.one (show Kd.M Kd.string _ _ _ (⟨#[99, 111, 110, 115, 116]⟩ : ByteArray) [.string (⟨#[99, 111, 110, 115, 116]⟩ : ByteArray)] from rfl) (Reps.one (show Kd.M Kd.string _ _ _ (⟨#[99, 111, 112, 121]⟩ : ByteArray) [.string (⟨#[99, 111, 112, 121]⟩ : ByteArray)] from rfl) (Reps.one (show Kd.M Kd.string _ _ _ (⟨#[97, 100, 100]⟩ : ByteArray) [.string (⟨#[97, 100, 100]⟩ : ByteArray)] from rfl) (Reps.one (show Kd.M Kd.string _ _ _ (⟨#[115, 117, 98]⟩ : ByteArray) [.string (⟨#[115, 117, 98]⟩ : ByteArray)] from rfl) (Reps.one (show Kd.M Kd.string _ _ _ (⟨#[109, 117, 108]⟩ : ByteArray) [.string (⟨#[109, 117, 108]⟩ : ByteArray)] from rfl) (Reps.one (show Kd.M Kd.string _ _ _ (⟨#[108, 101, 115, 115]⟩ : ByteArray) [.string (⟨#[108, 101, 115, 115]⟩ : ByteArray)] from rfl) (Reps.one (show Kd.M Kd.string _ _ _ (⟨#[100, 105, 118]⟩ : ByteArray) [.string (⟨#[100, 105, 118]⟩ : ByteArray)] from rfl) (Reps.one (show Kd.M Kd.string _ _ _ (⟨#[108, 111, 97, 100]⟩ : ByteArray) [.string (⟨#[108, 111, 97, 100]⟩ : ByteArray)] from rfl) (Reps.one (show Kd.M Kd.string _ _ _ (⟨#[115, 116, 111, 114, 101]⟩ : ByteArray) [.string (⟨#[115, 116, 111, 114, 101]⟩ : ByteArray)] from rfl) (Reps.one (show Kd.M Kd.string _ _ _ (⟨#[111, 117, 116]⟩ : ByteArray) [.string (⟨#[111, 117, 116]⟩ : ByteArray)] from rfl) (Reps.one (show Kd.M Kd.string _ _ _ (⟨#[99, 97, 108, 108]⟩ : ByteArray) [.string (⟨#[99, 97, 108, 108]⟩ : ByteArray)] from rfl) (Reps.one (show Kd.M Kd.string _ _ _ (⟨#[106, 117, 109, 112]⟩ : ByteArray) [.string (⟨#[106, 117, 109, 112]⟩ : ByteArray)] from rfl) (Reps.one (show Kd.M Kd.string _ _ _ (⟨#[98, 114, 97, 110, 99, 104]⟩ : ByteArray) [.string (⟨#[98, 114, 97, 110, 99, 104]⟩ : ByteArray)] from rfl) (Reps.one (show Kd.M Kd.string _ _ _ (⟨#[114, 101, 116]⟩ : ByteArray) [.string (⟨#[114, 101, 116]⟩ : ByteArray)] from rfl) (Reps.none _ _))))))))))))))))); intro v123 w4 ho5 hb hg_ hnew_; clear hg_ hnew_; (first | rw [← Ny122.out] at ho5 | (simp only [Int.reduceToNat] at ho5; rw [← Ny122.out] at ho5)); have n0_ := Aside0.mk (Kd.R_lower ho5 (below_size (by repeat (first | (with_reducible first | exact HB.out | apply below_alloc | apply pw_below_drewN | apply below_drew1) | exact HB.out)))); have n1_ := Aside0.mk (below_step (by repeat (first | (with_reducible first | exact HB.out | apply below_alloc | apply pw_below_drewN | apply below_drew1) | exact HB.out)) hb); clear HB; have HO124 := n0_; have HB := n1_; clear n0_ n1_; clear hb ho5))
 (try simp only [Act.put, List.setIfInBounds_toArray, List.set_cons_zero, List.set_cons_succ])
 go_cut [14] (fun v14 wc => ∃ (kq : Nat) (x14_2 : Bool), v14 = .bool x14_2 ∧ Aside0 (cubbyref08_word.j0 kq a0 a1 y122 x14_2 = some r) ∧ Aside0 (kq ≤ k) ∧ Aside0 (Kd.R Kd.string 9 wc w.heap.size (fun _ => True) v123 y122) ∧ Aside0 (Below w.heap.size w wc))
 case first =>
  have H := HC3.out
  clear HC3
  by_cases c6 : a0 ≥ 0
  ·rw [if_pos c6] at H
   have c6b0 : decide (0 ≤ a0) = true := decide_eq_true c6
   clear c6
   (first | rw [c6b0] | (simp only [i64_w, i32_w]; rw [c6b0]) | skip)
   have H' := Aside0.mk H
   clear H
   obtain ⟨Ao7, co7, eo7⟩ := Kd.R_slice HO124.out
   subst eo7
   go_wp2
   go_meet
   case rel => exact ⟨_, (decide (a0 < (y122.length : Int))), (by first | rfl | (simp; done) | (simp [*]; done)), H', ⟨by first | omega | exact Nat.le_refl _⟩, ⟨by (with_reducible repeat (first | apply Kd.R_alloc | apply Kd.R_drewN | apply Kd.R_drew)); exact HO124.out⟩, ⟨by repeat (first | (with_reducible first | exact HB.out | apply below_alloc | apply pw_below_drewN | apply below_drew1) | exact HB.out)⟩⟩
  ·rw [if_neg c6] at H
   have c6b0 : decide (0 ≤ a0) = false := decide_eq_false c6
   clear c6
   (first | rw [c6b0] | (simp only [i64_w, i32_w]; rw [c6b0]) | skip)
   have H' := Aside0.mk H
   clear H
   go_wp2
   go_meet
   case rel => exact ⟨_, (false), (by first | rfl | (simp; done) | (simp [*]; done)), H', ⟨by first | omega | exact Nat.le_refl _⟩, ⟨by (with_reducible repeat (first | apply Kd.R_alloc | apply Kd.R_drewN | apply Kd.R_drew)); exact HO124.out⟩, ⟨by repeat (first | (with_reducible first | exact HB.out | apply below_alloc | apply pw_below_drewN | apply below_drew1) | exact HB.out)⟩⟩
 case rest =>
  clear HC3
  try clear p2
  try clear c4
  try clear c6
  try clear c6b0
  obtain ⟨kq, x14_2, rfl, HA, HJ2, HO_5, HB⟩ := hcut
  cases kq with
  | zero => exact absurd HA.out (by simp [cubbyref08_word.j0])
  | succ kj2 =>
   have H := HA.out
   clear HA
   simp only [cubbyref08_word.j0] at H
   by_cases c8 : x14_2 = true
   ·subst c8
    have H1 : (if 0 ≤ a0 then (if a0 < (y122.length : Int) then (some (rdOf ByteArray.empty y122 a0)) else (none)) else (none)) = some r := by rw [if_pos rfl] at H; exact H
    clear H
    have H := H1
    clear H1
    by_cases c9 : 0 ≤ a0
    ·rw [if_pos c9] at H
     have c9b0 : decide (0 ≤ a0) = true := decide_eq_true c9
     clear c9
     by_cases c10 : a0 < (y122.length : Int)
     ·rw [if_pos c10] at H
      have c10b0 : decide (a0 < (y122.length : Int)) = true := decide_eq_true c10
      clear c10
      obtain rfl := Option.some.inj H
      obtain ⟨Ao11, co11, eo11⟩ := Kd.R_slice HO_5.out
      subst eo11
      have p125 : 0 ≤ (a0 : Int) := of_decide_eq_true (by first | (with_reducible assumption) | assumption)
      have q125 : a0 < (y122.length : Int) := of_decide_eq_true (by first | (with_reducible assumption) | assumption)
      obtain ⟨ad125, e125, hx125_0⟩ := Kd.at_string (Kd.R_reads' HO_5.out).2.2 a0 p125 q125
      cases e125
      replace p125 := eq_true p125
      replace q125 := eq_true q125
      go_wp2
      go_ret
      exact ⟨by first | rfl | (simp [errW_none, errW_some] <;> rfl) | (simp [*, errW_none, errW_some] <;> rfl), by repeat (first | (with_reducible first | exact HB.out | apply below_alloc | apply pw_below_drewN | apply below_drew1) | exact HB.out)⟩
     ·rw [if_neg c10] at H
      exact absurd H (by simp)
    ·rw [if_neg c9] at H
     exact absurd H (by simp)
   ·replace c8 := Bool.eq_false_iff.mpr c8
    subst c8
    have H1 : (if a1 = true then (cubbyref08_word.j1 kj2 a0 a1 (a0 == 21)) else (cubbyref08_word.j1 kj2 a0 a1 false)) = some r := by rw [if_neg (show ¬ (false = true) by decide)] at H; exact H
    clear H
    have H := H1
    clear H1
    have HC12 := Aside0.mk H
    clear H
    go_upto_region 4 with (fail)
    go_cut [23] (fun v23 wc => ∃ (kq : Nat) (x23_11 : Bool), v23 = .bool x23_11 ∧ Aside0 (cubbyref08_word.j1 kq a0 a1 x23_11 = some r) ∧ Aside0 (kq ≤ kj2) ∧ Aside0 (Below w.heap.size w wc))
    case first =>
     have H := HC12.out
     clear HC12
     by_cases c13 : a1 = true
     ·subst c13
      have H1 : (cubbyref08_word.j1 kj2 a0 true (a0 == 21)) = some r := by rw [if_pos rfl] at H; exact H
      clear H
      have H := H1
      clear H1
      have H' := Aside0.mk H
      clear H
      go_wp2
      go_meet
      case rel => exact ⟨_, ((a0 == 21)), (by first | rfl | (simp; done) | (simp [*]; done)), H', ⟨by have := HJ2.out; first | omega | exact Nat.le_refl _⟩, ⟨by repeat (first | (with_reducible first | exact HB.out | apply below_alloc | apply pw_below_drewN | apply below_drew1) | exact HB.out)⟩⟩
     ·replace c13 := Bool.eq_false_iff.mpr c13
      subst c13
      have H1 : (cubbyref08_word.j1 kj2 a0 false false) = some r := by rw [if_neg (show ¬ (false = true) by decide)] at H; exact H
      clear H
      have H := H1
      clear H1
      have H' := Aside0.mk H
      clear H
      go_wp2
      go_meet
      case rel => exact ⟨_, (false), (by first | rfl | (simp; done) | (simp [*]; done)), H', ⟨by have := HJ2.out; first | omega | exact Nat.le_refl _⟩, ⟨by repeat (first | (with_reducible first | exact HB.out | apply below_alloc | apply pw_below_drewN | apply below_drew1) | exact HB.out)⟩⟩
    case rest =>
     clear HC12
     try clear c1
     try clear p1
     try clear q1
     try clear hx1
     try clear p2
     try clear c4
     try clear c6
     try clear c6b0
     try clear c8
     try clear c9
     try clear c9b0
     try clear c10
     try clear c10b0
     try clear p12
     try clear q12
     try clear hx12
     try clear c13
     try clear hx125_0
     try clear p125
     try clear p2
     try clear q125
     obtain ⟨kq, x23_11, rfl, HA, HJ11, HB⟩ := hcut
     cases kq with
     | zero => exact absurd HA.out (by simp [cubbyref08_word.j1])
     | succ kj11 =>
      have H := HA.out
      clear HA
      simp only [cubbyref08_word.j1] at H
      by_cases c14 : x23_11 = true
      ·subst c14
       have H1 : (some (⟨#[102, 101, 116, 99, 104]⟩ : ByteArray)) = some r := by rw [if_pos rfl] at H; exact H
       clear H
       have H := H1
       clear H1
       obtain rfl := Option.some.inj H
       go_wp2
       go_ret
       exact ⟨by first | rfl | (simp [errW_none, errW_some] <;> rfl) | (simp [*, errW_none, errW_some] <;> rfl), by repeat (first | (with_reducible first | exact HB.out | apply below_alloc | apply pw_below_drewN | apply below_drew1) | exact HB.out)⟩
      ·replace c14 := Bool.eq_false_iff.mpr c14
       subst c14
       have H1 : (if a1 = true then (if a0 = 22 then (some (⟨#[115, 97, 118, 101]⟩ : ByteArray)) else (some (⟨#[]⟩ : ByteArray))) else (some (⟨#[]⟩ : ByteArray))) = some r := by rw [if_neg (show ¬ (false = true) by decide)] at H; exact H
       clear H
       have H := H1
       clear H1
       by_cases c15 : a1 = true
       ·subst c15
        have H1 : (if a0 = 22 then (some (⟨#[115, 97, 118, 101]⟩ : ByteArray)) else (some (⟨#[]⟩ : ByteArray))) = some r := by rw [if_pos rfl] at H; exact H
        clear H
        have H := H1
        clear H1
        by_cases c16 : a0 = 22
        ·rw [if_pos c16] at H
         have c16b0 : (a0 == 22) = true := beq_iff_eq.mpr c16
         have c16b1 : (a0 != 22) = false := bne_eq_false_iff_eq.mpr c16
         clear c16
         obtain rfl := Option.some.inj H
         go_wp2
         go_ret
         exact ⟨by first | rfl | (simp [errW_none, errW_some] <;> rfl) | (simp [*, errW_none, errW_some] <;> rfl), by repeat (first | (with_reducible first | exact HB.out | apply below_alloc | apply pw_below_drewN | apply below_drew1) | exact HB.out)⟩
        ·rw [if_neg c16] at H
         have c16b0 : (a0 == 22) = false := beq_eq_false_iff_ne.mpr c16
         have c16b1 : (a0 != 22) = true := bne_iff_ne.mpr c16
         obtain rfl := Option.some.inj H
         go_wp2
         go_ret
         exact ⟨by first | rfl | (simp [errW_none, errW_some] <;> rfl) | (simp [*, errW_none, errW_some] <;> rfl), by repeat (first | (with_reducible first | exact HB.out | apply below_alloc | apply pw_below_drewN | apply below_drew1) | exact HB.out)⟩
       ·replace c15 := Bool.eq_false_iff.mpr c15
        subst c15
        have H1 : (some (⟨#[]⟩ : ByteArray)) = some r := by rw [if_neg (show ¬ (false = true) by decide)] at H; exact H
        clear H
        have H := H1
        clear H1
        obtain rfl := Option.some.inj H
        go_wp2
        go_ret
        exact ⟨by first | rfl | (simp [errW_none, errW_some] <;> rfl) | (simp [*, errW_none, errW_some] <;> rfl), by repeat (first | (with_reducible first | exact HB.out | apply below_alloc | apply pw_below_drewN | apply below_drew1) | exact HB.out)⟩

/-! ### cubbyref08_numbers: function 47 -/
mutual
def cubbyref08_numbers.j0 : Nat → Bool → List Int → Int → Bool → Int → Int → Int → Int → ByteArray → List Int → Option (List Int)
 | 0, _, _, _, _, _, _, _, _, _, _ => none
 | k + 1, x1, x5, x8, x9, x127000, x127001, x127002, x127003, x127004, x127005 => if x9 = true then ((some (([x127001, x127002, x127003] : List Int) : List Int)).bind fun y130 => (if x5.length + y130.length < 17592186044416 then (some (x5 ++ y130)) else (none))) else (if x8 = 9 then ((some (([x127002, x127003] : List Int) : List Int)).bind fun y136 => (if x5.length + y136.length < 17592186044416 then (some (x5 ++ y136)) else (none))) else (if x8 = 10 then (cubbyref08_numbers.j1 k x1 x5 x8 (x8 == 10) x127000 x127001 x127002 x127003 x127004 x127005) else (if x8 = 12 then (cubbyref08_numbers.j1 k x1 x5 x8 (x8 == 12) x127000 x127001 x127002 x127003 x127004 x127005) else (cubbyref08_numbers.j1 k x1 x5 x8 (x8 == 14) x127000 x127001 x127002 x127003 x127004 x127005))))
def cubbyref08_numbers.j1 : Nat → Bool → List Int → Int → Bool → Int → Int → Int → Int → ByteArray → List Int → Option (List Int)
 | 0, _, _, _, _, _, _, _, _, _, _ => none
 | k + 1, x1, x5, x8, x33, x127000, x127001, x127002, x127003, x127004, x127005 => if x33 = true then (if x5.length < 17592186044416 then (some (x5 ++ [x127002])) else (none)) else (if x8 = 13 then ((some (([x127002, x127003, x127001] : List Int) : List Int)).bind fun y145 => (if x5.length + y145.length < 17592186044416 then (some (x5 ++ y145)) else (none))) else (if x8 = 11 then (if x5.length < 17592186044416 then ((some (x5 ++ [x127001] : List Int)).bind fun y151 => (if x1 = true then (if y151.length < 17592186044416 then (some (y151 ++ [x127002])) else (none)) else (if y151.length + x127005.length < 17592186044416 then (some (y151 ++ x127005)) else (none)))) else (none)) else ((some (([x127001, x127002] : List Int) : List Int)).bind fun y160 => (if x5.length + y160.length < 17592186044416 then (some (x5 ++ y160)) else (none)))))
end
def cubbyref08_numbers.f (k : Nat) (a0_0 : Int) (a0_1 : Int) (a0_2 : Int) (a0_3 : Int) (a0_4 : ByteArray) (l0_5 : List Int) (a1 : Bool) : Option (List Int) := (some (([] : List Int) : List Int)).bind fun y127 => (if a0_0 = 3 then (cubbyref08_numbers.j0 k a1 y127 a0_0 (a0_0 == 3) a0_0 a0_1 a0_2 a0_3 a0_4 l0_5) else (if a0_0 = 4 then (cubbyref08_numbers.j0 k a1 y127 a0_0 (a0_0 == 4) a0_0 a0_1 a0_2 a0_3 a0_4 l0_5) else (if a0_0 = 5 then (cubbyref08_numbers.j0 k a1 y127 a0_0 (a0_0 == 5) a0_0 a0_1 a0_2 a0_3 a0_4 l0_5) else (if a0_0 = 6 then (cubbyref08_numbers.j0 k a1 y127 a0_0 (a0_0 == 6) a0_0 a0_1 a0_2 a0_3 a0_4 l0_5) else (cubbyref08_numbers.j0 k a1 y127 a0_0 (a0_0 == 7) a0_0 a0_1 a0_2 a0_3 a0_4 l0_5)))))
theorem cubbyref08_numbers.mono_l : ∀ k, (∀ y0 y1 y2 y3 y4 y5 y6 y7 y8 y9, LeO (cubbyref08_numbers.j0 k y0 y1 y2 y3 y4 y5 y6 y7 y8 y9) (cubbyref08_numbers.j0 (k + 1) y0 y1 y2 y3 y4 y5 y6 y7 y8 y9)) ∧ (∀ y0 y1 y2 y3 y4 y5 y6 y7 y8 y9, LeO (cubbyref08_numbers.j1 k y0 y1 y2 y3 y4 y5 y6 y7 y8 y9) (cubbyref08_numbers.j1 (k + 1) y0 y1 y2 y3 y4 y5 y6 y7 y8 y9))
 | 0 => ⟨fun _ _ _ _ _ _ _ _ _ _ r h => by simp [cubbyref08_numbers.j0] at h, fun _ _ _ _ _ _ _ _ _ _ r h => by simp [cubbyref08_numbers.j1] at h⟩
 | k + 1 => by
  obtain ⟨ih0, ih1⟩ := cubbyref08_numbers.mono_l k
  refine ⟨?_, ?_⟩
  ·intro y0 y1 y2 y3 y4 y5 y6 y7 y8 y9
   unfold cubbyref08_numbers.j0
   repeat' first
   | (with_reducible exact ih0 _ _ _ _ _ _ _ _ _ _)
   | (with_reducible exact ih1 _ _ _ _ _ _ _ _ _ _)
   | (with_reducible exact LeO.refl _)
   | (with_reducible exact LeO.none _)
   | (with_reducible refine LeO.ite ?_ ?_)
   | (with_reducible refine LeO.bind ?_ (fun _ => ?_))
   | exact ih0 _ _ _ _ _ _ _ _ _ _
   | exact ih1 _ _ _ _ _ _ _ _ _ _
   | exact LeO.none _
   | refine LeO.ite ?_ ?_
   | refine LeO.bind ?_ (fun _ => ?_)
  ·intro y0 y1 y2 y3 y4 y5 y6 y7 y8 y9
   unfold cubbyref08_numbers.j1
   repeat' first
   | (with_reducible exact ih0 _ _ _ _ _ _ _ _ _ _)
   | (with_reducible exact ih1 _ _ _ _ _ _ _ _ _ _)
   | (with_reducible exact LeO.refl _)
   | (with_reducible exact LeO.none _)
   | (with_reducible refine LeO.ite ?_ ?_)
   | (with_reducible refine LeO.bind ?_ (fun _ => ?_))
   | exact ih0 _ _ _ _ _ _ _ _ _ _
   | exact ih1 _ _ _ _ _ _ _ _ _ _
   | exact LeO.none _
   | refine LeO.ite ?_ ?_
   | refine LeO.bind ?_ (fun _ => ?_)
theorem cubbyref08_numbers.mono : ∀ a0 a1 a2 a3 a4 a5 a6 k, LeO (cubbyref08_numbers.f k a0 a1 a2 a3 a4 a5 a6) (cubbyref08_numbers.f (k + 1) a0 a1 a2 a3 a4 a5 a6) := by
 intro a0 a1 a2 a3 a4 a5 a6 k
 obtain ⟨ih0, ih1⟩ := cubbyref08_numbers.mono_l k
 unfold cubbyref08_numbers.f
 repeat' first
   | (with_reducible exact ih0 _ _ _ _ _ _ _ _ _ _)
   | (with_reducible exact ih1 _ _ _ _ _ _ _ _ _ _)
   | (with_reducible exact LeO.refl _)
   | (with_reducible exact LeO.none _)
   | (with_reducible refine LeO.ite ?_ ?_)
   | (with_reducible refine LeO.bind ?_ (fun _ => ?_))
   | exact ih0 _ _ _ _ _ _ _ _ _ _
   | exact ih1 _ _ _ _ _ _ _ _ _ _
   | exact LeO.none _
   | refine LeO.ite ?_ ?_
   | refine LeO.bind ?_ (fun _ => ?_)
set_option maxHeartbeats 8000000 in
set_option maxRecDepth 100000 in
theorem cubbyref08_numbers.calls (k : Nat) (a0_0 : Int) (a0_1 : Int) (a0_2 : Int) (a0_3 : Int) (a0_4 : ByteArray) (A0_5 : Option Addr) (c0_5 : Nat) (l0_5 : List Int) (a1 : Bool) (r : List Int) (w : World) (hG : GW w) (hr0_5 : Kd.C (Kd.int .i64) w A0_5 l0_5.length l0_5) (hc0_5 : l0_5.length ≤ c0_5) (h : cubbyref08_numbers.f k a0_0 a0_1 a0_2 a0_3 a0_4 l0_5 a1 = some r) :
  Calls Tryd.prog 47 #[.agg #[.int .i64 a0_0, .int .i64 a0_1, .int .i64 a0_2, .int .i64 a0_3, .string a0_4, .slice A0_5 l0_5.length c0_5], .bool a1] w fun e w' => ∃ v0_ : Value, e = .returned (v0_) ∧ Kd.R (Kd.int .i64) 3 w' w.heap.size (fun _ => True) v0_ r ∧ Below w.heap.size w w' := by
 have hu72 := Tryd.underlying72
 have hGA := Aside0.mk hG
 clear hG
 have HR0_5 := Aside0.mk hr0_5
 have HC0_5 := Aside0.mk hc0_5
 clear hr0_5 hc0_5
 have HB := Aside0.mk (Below.refl w.heap.size w)
 have H : ((some (([] : List Int) : List Int)).bind fun y127 => (if a0_0 = 3 then (cubbyref08_numbers.j0 k a1 y127 a0_0 (a0_0 == 3) a0_0 a0_1 a0_2 a0_3 a0_4 l0_5) else (if a0_0 = 4 then (cubbyref08_numbers.j0 k a1 y127 a0_0 (a0_0 == 4) a0_0 a0_1 a0_2 a0_3 a0_4 l0_5) else (if a0_0 = 5 then (cubbyref08_numbers.j0 k a1 y127 a0_0 (a0_0 == 5) a0_0 a0_1 a0_2 a0_3 a0_4 l0_5) else (if a0_0 = 6 then (cubbyref08_numbers.j0 k a1 y127 a0_0 (a0_0 == 6) a0_0 a0_1 a0_2 a0_3 a0_4 l0_5) else (cubbyref08_numbers.j0 k a1 y127 a0_0 (a0_0 == 7) a0_0 a0_1 a0_2 a0_3 a0_4 l0_5)))))) = some r := h
 clear h
 obtain ⟨y127, hy127⟩ : ∃ y_ : List Int, y_ = (([] : List Int)) := ⟨_, rfl⟩
 replace H : (if a0_0 = 3 then (cubbyref08_numbers.j0 k a1 y127 a0_0 (a0_0 == 3) a0_0 a0_1 a0_2 a0_3 a0_4 l0_5) else (if a0_0 = 4 then (cubbyref08_numbers.j0 k a1 y127 a0_0 (a0_0 == 4) a0_0 a0_1 a0_2 a0_3 a0_4 l0_5) else (if a0_0 = 5 then (cubbyref08_numbers.j0 k a1 y127 a0_0 (a0_0 == 5) a0_0 a0_1 a0_2 a0_3 a0_4 l0_5) else (if a0_0 = 6 then (cubbyref08_numbers.j0 k a1 y127 a0_0 (a0_0 == 6) a0_0 a0_1 a0_2 a0_3 a0_4 l0_5) else (cubbyref08_numbers.j0 k a1 y127 a0_0 (a0_0 == 7) a0_0 a0_1 a0_2 a0_3 a0_4 l0_5))))) = some r := by first | (rw [hy127]; with_reducible exact H) | (have H2_ := (Option.bind_some _ _).symm.trans H; rw [hy127]; with_reducible exact H2_) | (have H2_ := (Option.bind_some _ _).symm.trans H; with_reducible exact H2_) | with_reducible exact H | (rw [hy127]; exact H) | exact H
 have Ny127 := Aside0.mk hy127
 clear hy127
 have HC3 := Aside0.mk H
 clear H
 go_enter Tryd.func47, Tryd.ntmps47
 go_upto_if 9 with (first | ((with_reducible refine gate_dst (N := 2) rfl ?_); refine box_event ?hg (N := 2) ?hd (cs := #[.int .i64 a0_0, .int .i64 a0_1, .int .i64 a0_2, .int .i64 a0_3, .string a0_4, .slice A0_5 l0_5.length c0_5]) (t := 72) ?hr ?_; (case hd => rfl); (case hg => rfl); (case hr => first | (go_simp; done) | (go_simp; rfl)); intro gb126 hg w4 hbox hb; have n0_ := Aside0.mk (below_step (by repeat (first | (with_reducible first | exact HB.out | apply below_alloc | apply pw_below_drewN | apply below_drew1) | exact HB.out)) hb); have n1_ := Aside0.mk (hbox); have n2_ := Aside0.mk ((by rw [hg]; exact (below_size (by repeat (first | (with_reducible first | exact HB.out | apply below_alloc | apply pw_below_drewN | apply below_drew1) | exact HB.out))) : w.heap.size ≤ gb126)); have n3_ := Aside0.mk ((by rw [hg]; exact (below_size (by repeat (first | (with_reducible first | exact HB.out | apply below_alloc | apply pw_below_drewN | apply below_drew1) | exact HB.out))) : w.heap.size ≤ gb126)); clear HB; have HB := n0_; have BK126 := n1_; have GW126 := n2_; have GE126 := n3_; clear n0_ n1_ n2_ n3_; clear hb hbox hg) | ((with_reducible refine gate_dst (N := 6) rfl ?_); refine Kd.R_lit (Kd.int .i64) _ 3 ?hg (N := 6) ?hd (xs := ([] : List Int)) (inner := []) (ok := fun _ => True) (okp := fun _ => True) ?hr ?hp (fun _ hk => hk) trivial (Below.refl _ _) (Nat.le_refl _) (by simp) ?_; (case hd => rfl); (case hg => rfl); (case hr => first | (go_simp; done) | (go_simp; rfl)); (case hp => exact (Reps.none _ _)); intro v128 w5 ho6 hb hg_ hnew_; clear hg_ hnew_; (first | rw [← Ny127.out] at ho6 | (simp only [Int.reduceToNat] at ho6; rw [← Ny127.out] at ho6)); have n0_ := Aside0.mk (Kd.R_lower ho6 (below_size (by repeat (first | (with_reducible first | exact HB.out | apply below_alloc | apply pw_below_drewN | apply below_drew1 | refine below_set ?_ GE126.out) | exact HB.out)))); have n1_ := Aside0.mk (blk_below (g := gb126) (o := .cells #[.int .i64 a0_0, .int .i64 a0_1, .int .i64 a0_2, .int .i64 a0_3, .string a0_4, .slice A0_5 l0_5.length c0_5] 72 (0, 0)) (by (with_reducible repeat (first | refine blk_drewN ?_ _ | refine blk_drew ?_ | refine blk_alloc ?_ _)); exact BK126.out) hb); have n2_ := Aside0.mk (below_step (by repeat (first | (with_reducible first | exact HB.out | apply below_alloc | apply pw_below_drewN | apply below_drew1 | refine below_set ?_ GE126.out) | exact HB.out)) hb); clear BK126; clear HB; have HO129 := n0_; have BK126 := n1_; have HB := n2_; clear n0_ n1_ n2_; clear hb ho6; have hcz7_0 : w5.cell? ⟨gb126, 0, none⟩ = some (.int .i64 a0_0) := (blk_cell BK126.out 0).trans rfl; have hcz7_1 : w5.cell? ⟨gb126, 1, none⟩ = some (.int .i64 a0_1) := (blk_cell BK126.out 1).trans rfl; have hcz7_2 : w5.cell? ⟨gb126, 2, none⟩ = some (.int .i64 a0_2) := (blk_cell BK126.out 2).trans rfl; have hcz7_3 : w5.cell? ⟨gb126, 3, none⟩ = some (.int .i64 a0_3) := (blk_cell BK126.out 3).trans rfl; have hcz7_4 : w5.cell? ⟨gb126, 4, none⟩ = some (.string a0_4) := (blk_cell BK126.out 4).trans rfl; have hcz7_5 : w5.cell? ⟨gb126, 5, none⟩ = some (.slice A0_5 l0_5.length c0_5) := (blk_cell BK126.out 5).trans rfl; have hfz7_0 := blk_frozen BK126.out 0; have hfz7_1 := blk_frozen BK126.out 1; have hfz7_2 := blk_frozen BK126.out 2; have hfz7_3 := blk_frozen BK126.out 3; have hfz7_4 := blk_frozen BK126.out 4; have hfz7_5 := blk_frozen BK126.out 5))
 (try simp only [Act.put, List.setIfInBounds_toArray, List.set_cons_zero, List.set_cons_succ])
 go_cut [9] (fun v9 wc => ∃ (kq : Nat) (x9_2 : Bool), v9 = .bool x9_2 ∧ Aside0 (cubbyref08_numbers.j0 kq a1 y127 a0_0 x9_2 a0_0 a0_1 a0_2 a0_3 a0_4 l0_5 = some r) ∧ Aside0 (kq ≤ k) ∧ Aside0 (Kd.R (Kd.int .i64) 3 wc w.heap.size (fun _ => True) v128 y127) ∧ Aside0 (wc.heap[gb126]? = some (.cells #[.int .i64 a0_0, .int .i64 a0_1, .int .i64 a0_2, .int .i64 a0_3, .string a0_4, (.slice A0_5 l0_5.length c0_5)] 72 (0, 0))) ∧ Aside0 (Below w.heap.size w wc))
 case first =>
  have H := HC3.out
  clear HC3
  by_cases c8 : a0_0 = 3
  ·rw [if_pos c8] at H
   have c8b0 : (a0_0 == 3) = true := beq_iff_eq.mpr c8
   have c8b1 : (a0_0 != 3) = false := bne_eq_false_iff_eq.mpr c8
   clear c8
   (first | rw [c8b0] | (simp only [i64_w, i32_w]; rw [c8b0]) | skip)
   have H' := Aside0.mk H
   clear H
   go_wp2
   go_meet
   case rel => exact ⟨_, ((a0_0 == 3)), (by first | rfl | (simp; done) | (simp [*]; done)), H', ⟨by first | omega | exact Nat.le_refl _⟩, ⟨by (with_reducible repeat (first | apply Kd.R_alloc | apply Kd.R_drewN | apply Kd.R_drew)); exact HO129.out⟩, ⟨by (with_reducible repeat (first | refine blk_drewN ?_ _ | refine blk_drew ?_ | refine blk_alloc ?_ _)); exact BK126.out⟩, ⟨by repeat (first | (with_reducible first | exact HB.out | apply below_alloc | apply pw_below_drewN | apply below_drew1 | refine below_set ?_ GE126.out) | exact HB.out)⟩⟩
  ·rw [if_neg c8] at H
   have c8b0 : (a0_0 == 3) = false := beq_eq_false_iff_ne.mpr c8
   have c8b1 : (a0_0 != 3) = true := bne_iff_ne.mpr c8
   (first | rw [c8b0] | (simp only [i64_w, i32_w]; rw [c8b0]) | skip)
   by_cases c9 : a0_0 = 4
   ·rw [if_pos c9] at H
    have c9b0 : (a0_0 == 4) = true := beq_iff_eq.mpr c9
    have c9b1 : (a0_0 != 4) = false := bne_eq_false_iff_eq.mpr c9
    clear c9
    have H' := Aside0.mk H
    clear H
    go_wp2
    go_meet
    case rel => exact ⟨_, ((a0_0 == 4)), (by first | rfl | (simp; done) | (simp [*]; done)), H', ⟨by first | omega | exact Nat.le_refl _⟩, ⟨by (with_reducible repeat (first | apply Kd.R_alloc | apply Kd.R_drewN | apply Kd.R_drew)); exact HO129.out⟩, ⟨by (with_reducible repeat (first | refine blk_drewN ?_ _ | refine blk_drew ?_ | refine blk_alloc ?_ _)); exact BK126.out⟩, ⟨by repeat (first | (with_reducible first | exact HB.out | apply below_alloc | apply pw_below_drewN | apply below_drew1 | refine below_set ?_ GE126.out) | exact HB.out)⟩⟩
   ·rw [if_neg c9] at H
    have c9b0 : (a0_0 == 4) = false := beq_eq_false_iff_ne.mpr c9
    have c9b1 : (a0_0 != 4) = true := bne_iff_ne.mpr c9
    by_cases c10 : a0_0 = 5
    ·rw [if_pos c10] at H
     have c10b0 : (a0_0 == 5) = true := beq_iff_eq.mpr c10
     have c10b1 : (a0_0 != 5) = false := bne_eq_false_iff_eq.mpr c10
     clear c10
     have H' := Aside0.mk H
     clear H
     go_wp2
     go_meet
     case rel => exact ⟨_, ((a0_0 == 5)), (by first | rfl | (simp; done) | (simp [*]; done)), H', ⟨by first | omega | exact Nat.le_refl _⟩, ⟨by (with_reducible repeat (first | apply Kd.R_alloc | apply Kd.R_drewN | apply Kd.R_drew)); exact HO129.out⟩, ⟨by (with_reducible repeat (first | refine blk_drewN ?_ _ | refine blk_drew ?_ | refine blk_alloc ?_ _)); exact BK126.out⟩, ⟨by repeat (first | (with_reducible first | exact HB.out | apply below_alloc | apply pw_below_drewN | apply below_drew1 | refine below_set ?_ GE126.out) | exact HB.out)⟩⟩
    ·rw [if_neg c10] at H
     have c10b0 : (a0_0 == 5) = false := beq_eq_false_iff_ne.mpr c10
     have c10b1 : (a0_0 != 5) = true := bne_iff_ne.mpr c10
     by_cases c11 : a0_0 = 6
     ·rw [if_pos c11] at H
      have c11b0 : (a0_0 == 6) = true := beq_iff_eq.mpr c11
      have c11b1 : (a0_0 != 6) = false := bne_eq_false_iff_eq.mpr c11
      clear c11
      have H' := Aside0.mk H
      clear H
      go_wp2
      go_meet
      case rel => exact ⟨_, ((a0_0 == 6)), (by first | rfl | (simp; done) | (simp [*]; done)), H', ⟨by first | omega | exact Nat.le_refl _⟩, ⟨by (with_reducible repeat (first | apply Kd.R_alloc | apply Kd.R_drewN | apply Kd.R_drew)); exact HO129.out⟩, ⟨by (with_reducible repeat (first | refine blk_drewN ?_ _ | refine blk_drew ?_ | refine blk_alloc ?_ _)); exact BK126.out⟩, ⟨by repeat (first | (with_reducible first | exact HB.out | apply below_alloc | apply pw_below_drewN | apply below_drew1 | refine below_set ?_ GE126.out) | exact HB.out)⟩⟩
     ·rw [if_neg c11] at H
      have c11b0 : (a0_0 == 6) = false := beq_eq_false_iff_ne.mpr c11
      have c11b1 : (a0_0 != 6) = true := bne_iff_ne.mpr c11
      have H' := Aside0.mk H
      clear H
      go_wp2
      go_meet
      case rel => exact ⟨_, ((a0_0 == 7)), (by first | rfl | (simp; done) | (simp [*]; done)), H', ⟨by first | omega | exact Nat.le_refl _⟩, ⟨by (with_reducible repeat (first | apply Kd.R_alloc | apply Kd.R_drewN | apply Kd.R_drew)); exact HO129.out⟩, ⟨by (with_reducible repeat (first | refine blk_drewN ?_ _ | refine blk_drew ?_ | refine blk_alloc ?_ _)); exact BK126.out⟩, ⟨by repeat (first | (with_reducible first | exact HB.out | apply below_alloc | apply pw_below_drewN | apply below_drew1 | refine below_set ?_ GE126.out) | exact HB.out)⟩⟩
 case rest =>
  clear HC3
  try clear c1
  try clear p2
  try clear c4
  try clear c8
  try clear c8b0
  try clear c8b1
  try clear c9
  try clear c9b0
  try clear c9b1
  try clear c10
  try clear c10b0
  try clear c10b1
  try clear c11
  try clear c11b0
  try clear c11b1
  try clear hcz7_0
  try clear hcz7_1
  try clear hcz7_2
  try clear hcz7_3
  try clear hcz7_4
  try clear hcz7_5
  try clear hfz7_0
  try clear hfz7_1
  try clear hfz7_2
  try clear hfz7_3
  try clear hfz7_4
  try clear hfz7_5
  obtain ⟨kq, x9_2, rfl, HA, HJ2, HO_5, BK126, HB⟩ := hcut
  cases kq with
  | zero => exact absurd HA.out (by simp [cubbyref08_numbers.j0])
  | succ kj2 =>
   have H := HA.out
   clear HA
   simp only [cubbyref08_numbers.j0] at H
   by_cases c12 : x9_2 = true
   ·subst c12
    have H1 : ((some (([a0_1, a0_2, a0_3] : List Int) : List Int)).bind fun y130 => (if y127.length + y130.length < 17592186044416 then (some (y127 ++ y130)) else (none))) = some r := by rw [if_pos rfl] at H; exact H
    clear H
    have H := H1
    clear H1
    obtain ⟨y130, hy130⟩ : ∃ y_ : List Int, y_ = (([a0_1, a0_2, a0_3] : List Int)) := ⟨_, rfl⟩
    replace H : (if y127.length + y130.length < 17592186044416 then (some (y127 ++ y130)) else (none)) = some r := by first | (rw [hy130]; with_reducible exact H) | (have H2_ := (Option.bind_some _ _).symm.trans H; rw [hy130]; with_reducible exact H2_) | (have H2_ := (Option.bind_some _ _).symm.trans H; with_reducible exact H2_) | with_reducible exact H | (rw [hy130]; exact H) | exact H
    have Ny130 := Aside0.mk hy130
    clear hy130
    by_cases c13 : y127.length + y130.length < 17592186044416
    ·rw [if_pos c13] at H
     have LMc13 := Aside0.mk c13
     clear c13
     obtain ⟨y133, hy133⟩ : ∃ y_ : List Int, y_ = (y127 ++ y130) := ⟨_, rfl⟩
     replace H : (some y133) = some r := by first | (rw [hy133]; with_reducible exact H) | (have H2_ := (Option.bind_some _ _).symm.trans H; rw [hy133]; with_reducible exact H2_) | (have H2_ := (Option.bind_some _ _).symm.trans H; with_reducible exact H2_) | with_reducible exact H | (rw [hy133]; exact H) | exact H
     have Ny133 := Aside0.mk hy133
     clear hy133
     obtain rfl := Option.some.inj H
     have hcz14_0 : wc.cell? ⟨gb126, 0, none⟩ = some (.int .i64 a0_0) := (blk_cell BK126.out 0).trans rfl
     have hcz14_1 : wc.cell? ⟨gb126, 1, none⟩ = some (.int .i64 a0_1) := (blk_cell BK126.out 1).trans rfl
     have hcz14_2 : wc.cell? ⟨gb126, 2, none⟩ = some (.int .i64 a0_2) := (blk_cell BK126.out 2).trans rfl
     have hcz14_3 : wc.cell? ⟨gb126, 3, none⟩ = some (.int .i64 a0_3) := (blk_cell BK126.out 3).trans rfl
     have hcz14_4 : wc.cell? ⟨gb126, 4, none⟩ = some (.string a0_4) := (blk_cell BK126.out 4).trans rfl
     have hcz14_5 : wc.cell? ⟨gb126, 5, none⟩ = some (.slice A0_5 l0_5.length c0_5) := (blk_cell BK126.out 5).trans rfl
     have hfz14_0 := blk_frozen BK126.out 0
     have hfz14_1 := blk_frozen BK126.out 1
     have hfz14_2 := blk_frozen BK126.out 2
     have hfz14_3 := blk_frozen BK126.out 3
     have hfz14_4 := blk_frozen BK126.out 4
     have hfz14_5 := blk_frozen BK126.out 5
     go_wp2_with (first | ((with_reducible refine gate_dst (N := 22) rfl ?_); refine Kd.R_lit (Kd.int .i64) _ 3 ?hg (N := 22) ?hd (xs := ([a0_1, a0_2, a0_3] : List Int)) (inner := [.int .i64 a0_1, .int .i64 a0_2, .int .i64 a0_3]) (ok := fun _ => True) (okp := fun _ => True) ?hr ?hp (fun _ hk => hk) trivial (Below.refl _ _) (Nat.le_refl _) (by simp) ?_; (case hd => rfl); (case hg => rfl); (case hr => first | (go_simp; done) | (go_simp; rfl)); (case hp => exact (Reps.one (show Kd.M (Kd.int .i64) _ _ _ a0_1 [.int .i64 a0_1] from rfl) (Reps.one (show Kd.M (Kd.int .i64) _ _ _ a0_2 [.int .i64 a0_2] from rfl) (Reps.one (show Kd.M (Kd.int .i64) _ _ _ a0_3 [.int .i64 a0_3] from rfl) (Reps.none _ _))))); intro v131 w15 ho16 hb hg_ hnew_; clear hg_ hnew_; (first | rw [← Ny130.out] at ho16 | (simp only [Int.reduceToNat] at ho16; rw [← Ny130.out] at ho16)); have n0_ := Aside0.mk (Kd.R_elder' (by (with_reducible repeat (first | apply Kd.R_alloc | apply Kd.R_drewN | apply Kd.R_drew)); exact HO_5.out) (Kd.R_base ho16) hb); have n1_ := Aside0.mk (Kd.R_lower (Kd.R_new' ho16 (Kd.R_lt (by (with_reducible repeat (first | apply Kd.R_alloc | apply Kd.R_drewN | apply Kd.R_drew)); exact HO_5.out))) (below_size (by repeat (first | (with_reducible first | exact HB.out | apply below_alloc | apply pw_below_drewN | apply below_drew1 | refine below_set ?_ GE126.out) | exact HB.out)))); have n2_ := Aside0.mk (blk_below (g := gb126) (o := .cells #[.int .i64 a0_0, .int .i64 a0_1, .int .i64 a0_2, .int .i64 a0_3, .string a0_4, .slice A0_5 l0_5.length c0_5] 72 (0, 0)) (by (with_reducible repeat (first | refine blk_drewN ?_ _ | refine blk_drew ?_ | refine blk_alloc ?_ _)); exact BK126.out) hb); have n3_ := Aside0.mk (below_step (by repeat (first | (with_reducible first | exact HB.out | apply below_alloc | apply pw_below_drewN | apply below_drew1 | refine below_set ?_ GE126.out) | exact HB.out)) hb); clear HO_5; clear BK126; clear HB; have HO_5 := n0_; have HO132 := n1_; have BK126 := n2_; have HB := n3_; clear n0_ n1_ n2_ n3_; clear hb ho16; obtain ⟨Ao18, co18, eo18⟩ := Kd.R_slice HO132.out; subst eo18) | ((with_reducible refine gate_builtin (b := .append) (xs := #[.tmp 15, .tmp 22]) rfl ?_); at_builtin; refine Kd.R_append_rows (Kd.int .i64) (w0 := w) w.heap.size rfl (.tmp 15) (.tmp 22) 66 3 (.int .i64 0) 8 rfl Tryd.underlying66 info3 rfl (by decide) (by omega) v128 y127 y130 _ _ _ (fun k_ => some k_ ≠ (.slice Ao18 y130.length co18 : Value).ownBlock) (fun _ => False) rfl rfl ?aO ?aR (fun _ _ h => h) (fun _ h => h.elim) ?aF ?aB ?aS ?aL ?_; (case aR => repeat (first | exact (Kd.R_reads' HO132.out).2.2 | (with_reducible refine Kd.C_alloc ?_ _) | (with_reducible refine Kd.C_drewN ?_ _) | (with_reducible refine Kd.C_drew ?_))); (case aB => exact (by repeat (first | (with_reducible first | exact HB.out | apply below_alloc | apply pw_below_drewN | apply below_drew1 | refine below_set ?_ GE126.out) | exact HB.out))); (case aF => exact (fun k_ hk => Kd.fresh' (Kd.R_lt (by (with_reducible repeat (first | apply Kd.R_alloc | apply Kd.R_drewN | apply Kd.R_drew)); exact HO132.out)) k_ hk)); (case aO => exact (by (with_reducible repeat (first | apply Kd.R_alloc | apply Kd.R_drewN | apply Kd.R_drew)); exact Kd.R_mono HO_5.out (fun _ hk => hk.2))); (case aS => exact (below_size (by repeat (first | (with_reducible first | exact HB.out | apply below_alloc | apply pw_below_drewN | apply below_drew1 | refine below_set ?_ GE126.out) | exact HB.out)))); (case aL => have := LMc13.out; omega); intro v134 w17 ho hb hg hat; rw [← Ny133.out] at ho; have n0_ := Aside0.mk (blk_grown (g := gb126) (o := .cells #[.int .i64 a0_0, .int .i64 a0_1, .int .i64 a0_2, .int .i64 a0_3, .string a0_4, .slice A0_5 l0_5.length c0_5] 72 (0, 0)) (by (with_reducible repeat (first | refine blk_drewN ?_ _ | refine blk_drew ?_ | refine blk_alloc ?_ _)); exact BK126.out) hg (Kd.R_ne HO_5.out BK126.out (by decide))); have n1_ := Aside0.mk (Kd.R_after (ok := (fun _ => True)) (by (with_reducible repeat (first | apply Kd.R_alloc | apply Kd.R_drewN | apply Kd.R_drew)); exact HO132.out) hg hat); have n2_ := Aside0.mk (hb); have n3_ := Aside0.mk (ho); clear BK126; clear HO132; clear HB; clear HO_5; have BK126 := n0_; have HO132 := n1_; have HB := n2_; have HO135 := n3_; clear n0_ n1_ n2_ n3_; clear ho hb hg hat))
     go_ret
     exact ⟨_, by first | rfl | (simp [errW_none, errW_some] <;> rfl) | (simp [*, errW_none, errW_some] <;> rfl), by (with_reducible repeat (first | apply Kd.R_alloc | apply Kd.R_drewN | apply Kd.R_drew)); exact Kd.R_mono HO135.out (fun _ hk => trivial), by repeat (first | (with_reducible first | exact HB.out | apply below_alloc | apply pw_below_drewN | apply below_drew1 | refine below_set ?_ GE126.out) | exact HB.out)⟩
    ·rw [if_neg c13] at H
     exact absurd H (by simp)
   ·replace c12 := Bool.eq_false_iff.mpr c12
    subst c12
    have H1 : (if a0_0 = 9 then ((some (([a0_2, a0_3] : List Int) : List Int)).bind fun y136 => (if y127.length + y136.length < 17592186044416 then (some (y127 ++ y136)) else (none))) else (if a0_0 = 10 then (cubbyref08_numbers.j1 kj2 a1 y127 a0_0 (a0_0 == 10) a0_0 a0_1 a0_2 a0_3 a0_4 l0_5) else (if a0_0 = 12 then (cubbyref08_numbers.j1 kj2 a1 y127 a0_0 (a0_0 == 12) a0_0 a0_1 a0_2 a0_3 a0_4 l0_5) else (cubbyref08_numbers.j1 kj2 a1 y127 a0_0 (a0_0 == 14) a0_0 a0_1 a0_2 a0_3 a0_4 l0_5)))) = some r := by rw [if_neg (show ¬ (false = true) by decide)] at H; exact H
    clear H
    have H := H1
    clear H1
    by_cases c19 : a0_0 = 9
    ·rw [if_pos c19] at H
     have c19b0 : (a0_0 == 9) = true := beq_iff_eq.mpr c19
     have c19b1 : (a0_0 != 9) = false := bne_eq_false_iff_eq.mpr c19
     clear c19
     obtain ⟨y136, hy136⟩ : ∃ y_ : List Int, y_ = (([a0_2, a0_3] : List Int)) := ⟨_, rfl⟩
     replace H : (if y127.length + y136.length < 17592186044416 then (some (y127 ++ y136)) else (none)) = some r := by first | (rw [hy136]; with_reducible exact H) | (have H2_ := (Option.bind_some _ _).symm.trans H; rw [hy136]; with_reducible exact H2_) | (have H2_ := (Option.bind_some _ _).symm.trans H; with_reducible exact H2_) | with_reducible exact H | (rw [hy136]; exact H) | exact H
     have Ny136 := Aside0.mk hy136
     clear hy136
     by_cases c20 : y127.length + y136.length < 17592186044416
     ·rw [if_pos c20] at H
      have LMc20 := Aside0.mk c20
      clear c20
      obtain ⟨y139, hy139⟩ : ∃ y_ : List Int, y_ = (y127 ++ y136) := ⟨_, rfl⟩
      replace H : (some y139) = some r := by first | (rw [hy139]; with_reducible exact H) | (have H2_ := (Option.bind_some _ _).symm.trans H; rw [hy139]; with_reducible exact H2_) | (have H2_ := (Option.bind_some _ _).symm.trans H; with_reducible exact H2_) | with_reducible exact H | (rw [hy139]; exact H) | exact H
      have Ny139 := Aside0.mk hy139
      clear hy139
      obtain rfl := Option.some.inj H
      have hcz21_0 : wc.cell? ⟨gb126, 0, none⟩ = some (.int .i64 a0_0) := (blk_cell BK126.out 0).trans rfl
      have hcz21_1 : wc.cell? ⟨gb126, 1, none⟩ = some (.int .i64 a0_1) := (blk_cell BK126.out 1).trans rfl
      have hcz21_2 : wc.cell? ⟨gb126, 2, none⟩ = some (.int .i64 a0_2) := (blk_cell BK126.out 2).trans rfl
      have hcz21_3 : wc.cell? ⟨gb126, 3, none⟩ = some (.int .i64 a0_3) := (blk_cell BK126.out 3).trans rfl
      have hcz21_4 : wc.cell? ⟨gb126, 4, none⟩ = some (.string a0_4) := (blk_cell BK126.out 4).trans rfl
      have hcz21_5 : wc.cell? ⟨gb126, 5, none⟩ = some (.slice A0_5 l0_5.length c0_5) := (blk_cell BK126.out 5).trans rfl
      have hfz21_0 := blk_frozen BK126.out 0
      have hfz21_1 := blk_frozen BK126.out 1
      have hfz21_2 := blk_frozen BK126.out 2
      have hfz21_3 := blk_frozen BK126.out 3
      have hfz21_4 := blk_frozen BK126.out 4
      have hfz21_5 := blk_frozen BK126.out 5
      go_wp2_with (first | ((with_reducible refine gate_dst (N := 31) rfl ?_); refine Kd.R_lit (Kd.int .i64) _ 3 ?hg (N := 31) ?hd (xs := ([a0_2, a0_3] : List Int)) (inner := [.int .i64 a0_2, .int .i64 a0_3]) (ok := fun _ => True) (okp := fun _ => True) ?hr ?hp (fun _ hk => hk) trivial (Below.refl _ _) (Nat.le_refl _) (by simp) ?_; (case hd => rfl); (case hg => rfl); (case hr => first | (go_simp; done) | (go_simp; rfl)); (case hp => exact (Reps.one (show Kd.M (Kd.int .i64) _ _ _ a0_2 [.int .i64 a0_2] from rfl) (Reps.one (show Kd.M (Kd.int .i64) _ _ _ a0_3 [.int .i64 a0_3] from rfl) (Reps.none _ _)))); intro v137 w22 ho23 hb hg_ hnew_; clear hg_ hnew_; (first | rw [← Ny136.out] at ho23 | (simp only [Int.reduceToNat] at ho23; rw [← Ny136.out] at ho23)); have n0_ := Aside0.mk (Kd.R_elder' (by (with_reducible repeat (first | apply Kd.R_alloc | apply Kd.R_drewN | apply Kd.R_drew)); exact HO_5.out) (Kd.R_base ho23) hb); have n1_ := Aside0.mk (Kd.R_lower (Kd.R_new' ho23 (Kd.R_lt (by (with_reducible repeat (first | apply Kd.R_alloc | apply Kd.R_drewN | apply Kd.R_drew)); exact HO_5.out))) (below_size (by repeat (first | (with_reducible first | exact HB.out | apply below_alloc | apply pw_below_drewN | apply below_drew1 | refine below_set ?_ GE126.out) | exact HB.out)))); have n2_ := Aside0.mk (blk_below (g := gb126) (o := .cells #[.int .i64 a0_0, .int .i64 a0_1, .int .i64 a0_2, .int .i64 a0_3, .string a0_4, .slice A0_5 l0_5.length c0_5] 72 (0, 0)) (by (with_reducible repeat (first | refine blk_drewN ?_ _ | refine blk_drew ?_ | refine blk_alloc ?_ _)); exact BK126.out) hb); have n3_ := Aside0.mk (below_step (by repeat (first | (with_reducible first | exact HB.out | apply below_alloc | apply pw_below_drewN | apply below_drew1 | refine below_set ?_ GE126.out) | exact HB.out)) hb); clear HO_5; clear BK126; clear HB; have HO_5 := n0_; have HO138 := n1_; have BK126 := n2_; have HB := n3_; clear n0_ n1_ n2_ n3_; clear hb ho23; obtain ⟨Ao25, co25, eo25⟩ := Kd.R_slice HO138.out; subst eo25) | ((with_reducible refine gate_builtin (b := .append) (xs := #[.tmp 26, .tmp 31]) rfl ?_); at_builtin; refine Kd.R_append_rows (Kd.int .i64) (w0 := w) w.heap.size rfl (.tmp 26) (.tmp 31) 66 3 (.int .i64 0) 8 rfl Tryd.underlying66 info3 rfl (by decide) (by omega) v128 y127 y136 _ _ _ (fun k_ => some k_ ≠ (.slice Ao25 y136.length co25 : Value).ownBlock) (fun _ => False) rfl rfl ?aO ?aR (fun _ _ h => h) (fun _ h => h.elim) ?aF ?aB ?aS ?aL ?_; (case aR => repeat (first | exact (Kd.R_reads' HO138.out).2.2 | (with_reducible refine Kd.C_alloc ?_ _) | (with_reducible refine Kd.C_drewN ?_ _) | (with_reducible refine Kd.C_drew ?_))); (case aB => exact (by repeat (first | (with_reducible first | exact HB.out | apply below_alloc | apply pw_below_drewN | apply below_drew1 | refine below_set ?_ GE126.out) | exact HB.out))); (case aF => exact (fun k_ hk => Kd.fresh' (Kd.R_lt (by (with_reducible repeat (first | apply Kd.R_alloc | apply Kd.R_drewN | apply Kd.R_drew)); exact HO138.out)) k_ hk)); (case aO => exact (by (with_reducible repeat (first | apply Kd.R_alloc | apply Kd.R_drewN | apply Kd.R_drew)); exact Kd.R_mono HO_5.out (fun _ hk => hk.2))); (case aS => exact (below_size (by repeat (first | (with_reducible first | exact HB.out | apply below_alloc | apply pw_below_drewN | apply below_drew1 | refine below_set ?_ GE126.out) | exact HB.out)))); (case aL => have := LMc20.out; omega); intro v140 w24 ho hb hg hat; rw [← Ny139.out] at ho; have n0_ := Aside0.mk (blk_grown (g := gb126) (o := .cells #[.int .i64 a0_0, .int .i64 a0_1, .int .i64 a0_2, .int .i64 a0_3, .string a0_4, .slice A0_5 l0_5.length c0_5] 72 (0, 0)) (by (with_reducible repeat (first | refine blk_drewN ?_ _ | refine blk_drew ?_ | refine blk_alloc ?_ _)); exact BK126.out) hg (Kd.R_ne HO_5.out BK126.out (by decide))); have n1_ := Aside0.mk (Kd.R_after (ok := (fun _ => True)) (by (with_reducible repeat (first | apply Kd.R_alloc | apply Kd.R_drewN | apply Kd.R_drew)); exact HO138.out) hg hat); have n2_ := Aside0.mk (hb); have n3_ := Aside0.mk (ho); clear BK126; clear HO138; clear HB; clear HO_5; have BK126 := n0_; have HO138 := n1_; have HB := n2_; have HO141 := n3_; clear n0_ n1_ n2_ n3_; clear ho hb hg hat))
      go_ret
      exact ⟨_, by first | rfl | (simp [errW_none, errW_some] <;> rfl) | (simp [*, errW_none, errW_some] <;> rfl), by (with_reducible repeat (first | apply Kd.R_alloc | apply Kd.R_drewN | apply Kd.R_drew)); exact Kd.R_mono HO141.out (fun _ hk => trivial), by repeat (first | (with_reducible first | exact HB.out | apply below_alloc | apply pw_below_drewN | apply below_drew1 | refine below_set ?_ GE126.out) | exact HB.out)⟩
     ·rw [if_neg c20] at H
      exact absurd H (by simp)
    ·rw [if_neg c19] at H
     have c19b0 : (a0_0 == 9) = false := beq_eq_false_iff_ne.mpr c19
     have c19b1 : (a0_0 != 9) = true := bne_iff_ne.mpr c19
     have HC26 := Aside0.mk H
     clear H
     go_upto_if 33 with (fail)
     go_cut [33] (fun v33 wc => ∃ (kq : Nat) (x33_25 : Bool), v33 = .bool x33_25 ∧ Aside0 (cubbyref08_numbers.j1 kq a1 y127 a0_0 x33_25 a0_0 a0_1 a0_2 a0_3 a0_4 l0_5 = some r) ∧ Aside0 (kq ≤ kj2) ∧ Aside0 (Kd.R (Kd.int .i64) 3 wc w.heap.size (fun _ => True) v128 y127) ∧ Aside0 (wc.heap[gb126]? = some (.cells #[.int .i64 a0_0, .int .i64 a0_1, .int .i64 a0_2, .int .i64 a0_3, .string a0_4, (.slice A0_5 l0_5.length c0_5)] 72 (0, 0))) ∧ Aside0 (Below w.heap.size w wc))
     case first =>
      have H := HC26.out
      clear HC26
      by_cases c27 : a0_0 = 10
      ·rw [if_pos c27] at H
       have c27b0 : (a0_0 == 10) = true := beq_iff_eq.mpr c27
       have c27b1 : (a0_0 != 10) = false := bne_eq_false_iff_eq.mpr c27
       clear c27
       (first | rw [c27b0] | (simp only [i64_w, i32_w]; rw [c27b0]) | skip)
       have H' := Aside0.mk H
       clear H
       go_wp2
       go_meet
       case rel => exact ⟨_, ((a0_0 == 10)), (by first | rfl | (simp; done) | (simp [*]; done)), H', ⟨by have := HJ2.out; first | omega | exact Nat.le_refl _⟩, ⟨by (with_reducible repeat (first | apply Kd.R_alloc | apply Kd.R_drewN | apply Kd.R_drew)); exact HO_5.out⟩, ⟨by (with_reducible repeat (first | refine blk_drewN ?_ _ | refine blk_drew ?_ | refine blk_alloc ?_ _)); exact BK126.out⟩, ⟨by repeat (first | (with_reducible first | exact HB.out | apply below_alloc | apply pw_below_drewN | apply below_drew1 | refine below_set ?_ GE126.out) | exact HB.out)⟩⟩
      ·rw [if_neg c27] at H
       have c27b0 : (a0_0 == 10) = false := beq_eq_false_iff_ne.mpr c27
       have c27b1 : (a0_0 != 10) = true := bne_iff_ne.mpr c27
       (first | rw [c27b0] | (simp only [i64_w, i32_w]; rw [c27b0]) | skip)
       by_cases c28 : a0_0 = 12
       ·rw [if_pos c28] at H
        have c28b0 : (a0_0 == 12) = true := beq_iff_eq.mpr c28
        have c28b1 : (a0_0 != 12) = false := bne_eq_false_iff_eq.mpr c28
        clear c28
        have H' := Aside0.mk H
        clear H
        go_wp2
        go_meet
        case rel => exact ⟨_, ((a0_0 == 12)), (by first | rfl | (simp; done) | (simp [*]; done)), H', ⟨by have := HJ2.out; first | omega | exact Nat.le_refl _⟩, ⟨by (with_reducible repeat (first | apply Kd.R_alloc | apply Kd.R_drewN | apply Kd.R_drew)); exact HO_5.out⟩, ⟨by (with_reducible repeat (first | refine blk_drewN ?_ _ | refine blk_drew ?_ | refine blk_alloc ?_ _)); exact BK126.out⟩, ⟨by repeat (first | (with_reducible first | exact HB.out | apply below_alloc | apply pw_below_drewN | apply below_drew1 | refine below_set ?_ GE126.out) | exact HB.out)⟩⟩
       ·rw [if_neg c28] at H
        have c28b0 : (a0_0 == 12) = false := beq_eq_false_iff_ne.mpr c28
        have c28b1 : (a0_0 != 12) = true := bne_iff_ne.mpr c28
        have H' := Aside0.mk H
        clear H
        go_wp2
        go_meet
        case rel => exact ⟨_, ((a0_0 == 14)), (by first | rfl | (simp; done) | (simp [*]; done)), H', ⟨by have := HJ2.out; first | omega | exact Nat.le_refl _⟩, ⟨by (with_reducible repeat (first | apply Kd.R_alloc | apply Kd.R_drewN | apply Kd.R_drew)); exact HO_5.out⟩, ⟨by (with_reducible repeat (first | refine blk_drewN ?_ _ | refine blk_drew ?_ | refine blk_alloc ?_ _)); exact BK126.out⟩, ⟨by repeat (first | (with_reducible first | exact HB.out | apply below_alloc | apply pw_below_drewN | apply below_drew1 | refine below_set ?_ GE126.out) | exact HB.out)⟩⟩
     case rest =>
      clear HC26
      try clear c1
      try clear c2
      try clear p2
      try clear c4
      try clear c8
      try clear c8b0
      try clear c8b1
      try clear c9
      try clear c9b0
      try clear c9b1
      try clear c10
      try clear c10b0
      try clear c10b1
      try clear c11
      try clear c11b0
      try clear c11b1
      try clear c12
      try clear c13
      try clear c19
      try clear c19b0
      try clear c19b1
      try clear c20
      try clear c27
      try clear c27b0
      try clear c27b1
      try clear c28
      try clear c28b0
      try clear c28b1
      try clear hcz14_0
      try clear hcz14_1
      try clear hcz14_2
      try clear hcz14_3
      try clear hcz14_4
      try clear hcz14_5
      try clear hcz21_0
      try clear hcz21_1
      try clear hcz21_2
      try clear hcz21_3
      try clear hcz21_4
      try clear hcz21_5
      try clear hcz7_0
      try clear hcz7_1
      try clear hcz7_2
      try clear hcz7_3
      try clear hcz7_4
      try clear hcz7_5
      try clear hfz14_0
      try clear hfz14_1
      try clear hfz14_2
      try clear hfz14_3
      try clear hfz14_4
      try clear hfz14_5
      try clear hfz21_0
      try clear hfz21_1
      try clear hfz21_2
      try clear hfz21_3
      try clear hfz21_4
      try clear hfz21_5
      try clear hfz7_0
      try clear hfz7_1
      try clear hfz7_2
      try clear hfz7_3
      try clear hfz7_4
      try clear hfz7_5
      try clear p2
      obtain ⟨kq, x33_25, rfl, HA, HJ25, HO_5, BK126, HB⟩ := hcut
      cases kq with
      | zero => exact absurd HA.out (by simp [cubbyref08_numbers.j1])
      | succ kj25 =>
       have H := HA.out
       clear HA
       simp only [cubbyref08_numbers.j1] at H
       by_cases c29 : x33_25 = true
       ·subst c29
        have H1 : (if y127.length < 17592186044416 then (some (y127 ++ [a0_2])) else (none)) = some r := by rw [if_pos rfl] at H; exact H
        clear H
        have H := H1
        clear H1
        by_cases c30 : y127.length < 17592186044416
        ·rw [if_pos c30] at H
         have LMc30 := Aside0.mk c30
         clear c30
         obtain ⟨y142, hy142⟩ : ∃ y_ : List Int, y_ = (y127 ++ [a0_2]) := ⟨_, rfl⟩
         replace H : (some y142) = some r := by first | (rw [hy142]; with_reducible exact H) | (have H2_ := (Option.bind_some _ _).symm.trans H; rw [hy142]; with_reducible exact H2_) | (have H2_ := (Option.bind_some _ _).symm.trans H; with_reducible exact H2_) | with_reducible exact H | (rw [hy142]; exact H) | exact H
         have Ny142 := Aside0.mk hy142
         clear hy142
         obtain rfl := Option.some.inj H
         have hcz31_0 : wc.cell? ⟨gb126, 0, none⟩ = some (.int .i64 a0_0) := (blk_cell BK126.out 0).trans rfl
         have hcz31_1 : wc.cell? ⟨gb126, 1, none⟩ = some (.int .i64 a0_1) := (blk_cell BK126.out 1).trans rfl
         have hcz31_2 : wc.cell? ⟨gb126, 2, none⟩ = some (.int .i64 a0_2) := (blk_cell BK126.out 2).trans rfl
         have hcz31_3 : wc.cell? ⟨gb126, 3, none⟩ = some (.int .i64 a0_3) := (blk_cell BK126.out 3).trans rfl
         have hcz31_4 : wc.cell? ⟨gb126, 4, none⟩ = some (.string a0_4) := (blk_cell BK126.out 4).trans rfl
         have hcz31_5 : wc.cell? ⟨gb126, 5, none⟩ = some (.slice A0_5 l0_5.length c0_5) := (blk_cell BK126.out 5).trans rfl
         have hfz31_0 := blk_frozen BK126.out 0
         have hfz31_1 := blk_frozen BK126.out 1
         have hfz31_2 := blk_frozen BK126.out 2
         have hfz31_3 := blk_frozen BK126.out 3
         have hfz31_4 := blk_frozen BK126.out 4
         have hfz31_5 := blk_frozen BK126.out 5
         go_wp2_with (first | ((with_reducible refine gate_builtin (b := .append) (xs := #[.tmp 37, .tmp 40]) rfl ?_); at_builtin; refine Kd.R_append (Kd.int .i64) (w0 := w) w.heap.size rfl (.tmp 37) (.tmp 40) 66 3 (.int .i64 0) 8 rfl Tryd.underlying66 info3 rfl (by decide) (by omega) v128 y127 a0_2 [.int .i64 a0_2] (fun _ => True) (fun _ => False) rfl rfl ?aP (fun _ hk => hk.elim) ?aF ?aO ?aB ?aS ?aL ?_; (case aP => exact rfl); (case aB => exact (by repeat (first | (with_reducible first | exact HB.out | apply below_alloc | apply pw_below_drewN | apply below_drew1 | refine below_set ?_ GE126.out) | exact HB.out))); (case aF => exact (fun _ _ => trivial)); (case aO => exact (by (with_reducible repeat (first | apply Kd.R_alloc | apply Kd.R_drewN | apply Kd.R_drew)); exact HO_5.out)); (case aS => exact (below_size (by repeat (first | (with_reducible first | exact HB.out | apply below_alloc | apply pw_below_drewN | apply below_drew1 | refine below_set ?_ GE126.out) | exact HB.out)))); (case aL => have := LMc30.out; omega); intro v143 w32 ho hb hg hat; rw [← Ny142.out] at ho; have n0_ := Aside0.mk (blk_grown (g := gb126) (o := .cells #[.int .i64 a0_0, .int .i64 a0_1, .int .i64 a0_2, .int .i64 a0_3, .string a0_4, .slice A0_5 l0_5.length c0_5] 72 (0, 0)) (by (with_reducible repeat (first | refine blk_drewN ?_ _ | refine blk_drew ?_ | refine blk_alloc ?_ _)); exact BK126.out) hg (Kd.R_ne HO_5.out BK126.out (by decide))); have n1_ := Aside0.mk (hb); have n2_ := Aside0.mk (ho); clear BK126; clear HB; clear HO_5; have BK126 := n0_; have HB := n1_; have HO144 := n2_; clear n0_ n1_ n2_; clear ho hb hg hat))
         go_ret
         exact ⟨_, by first | rfl | (simp [errW_none, errW_some] <;> rfl) | (simp [*, errW_none, errW_some] <;> rfl), by (with_reducible repeat (first | apply Kd.R_alloc | apply Kd.R_drewN | apply Kd.R_drew)); exact HO144.out, by repeat (first | (with_reducible first | exact HB.out | apply below_alloc | apply pw_below_drewN | apply below_drew1 | refine below_set ?_ GE126.out) | exact HB.out)⟩
        ·rw [if_neg c30] at H
         exact absurd H (by simp)
       ·replace c29 := Bool.eq_false_iff.mpr c29
        subst c29
        have H1 : (if a0_0 = 13 then ((some (([a0_2, a0_3, a0_1] : List Int) : List Int)).bind fun y145 => (if y127.length + y145.length < 17592186044416 then (some (y127 ++ y145)) else (none))) else (if a0_0 = 11 then (if y127.length < 17592186044416 then ((some (y127 ++ [a0_1] : List Int)).bind fun y151 => (if a1 = true then (if y151.length < 17592186044416 then (some (y151 ++ [a0_2])) else (none)) else (if y151.length + l0_5.length < 17592186044416 then (some (y151 ++ l0_5)) else (none)))) else (none)) else ((some (([a0_1, a0_2] : List Int) : List Int)).bind fun y160 => (if y127.length + y160.length < 17592186044416 then (some (y127 ++ y160)) else (none))))) = some r := by rw [if_neg (show ¬ (false = true) by decide)] at H; exact H
        clear H
        have H := H1
        clear H1
        by_cases c33 : a0_0 = 13
        ·rw [if_pos c33] at H
         have c33b0 : (a0_0 == 13) = true := beq_iff_eq.mpr c33
         have c33b1 : (a0_0 != 13) = false := bne_eq_false_iff_eq.mpr c33
         clear c33
         obtain ⟨y145, hy145⟩ : ∃ y_ : List Int, y_ = (([a0_2, a0_3, a0_1] : List Int)) := ⟨_, rfl⟩
         replace H : (if y127.length + y145.length < 17592186044416 then (some (y127 ++ y145)) else (none)) = some r := by first | (rw [hy145]; with_reducible exact H) | (have H2_ := (Option.bind_some _ _).symm.trans H; rw [hy145]; with_reducible exact H2_) | (have H2_ := (Option.bind_some _ _).symm.trans H; with_reducible exact H2_) | with_reducible exact H | (rw [hy145]; exact H) | exact H
         have Ny145 := Aside0.mk hy145
         clear hy145
         by_cases c34 : y127.length + y145.length < 17592186044416
         ·rw [if_pos c34] at H
          have LMc34 := Aside0.mk c34
          clear c34
          obtain ⟨y148, hy148⟩ : ∃ y_ : List Int, y_ = (y127 ++ y145) := ⟨_, rfl⟩
          replace H : (some y148) = some r := by first | (rw [hy148]; with_reducible exact H) | (have H2_ := (Option.bind_some _ _).symm.trans H; rw [hy148]; with_reducible exact H2_) | (have H2_ := (Option.bind_some _ _).symm.trans H; with_reducible exact H2_) | with_reducible exact H | (rw [hy148]; exact H) | exact H
          have Ny148 := Aside0.mk hy148
          clear hy148
          obtain rfl := Option.some.inj H
          have hcz35_0 : wc.cell? ⟨gb126, 0, none⟩ = some (.int .i64 a0_0) := (blk_cell BK126.out 0).trans rfl
          have hcz35_1 : wc.cell? ⟨gb126, 1, none⟩ = some (.int .i64 a0_1) := (blk_cell BK126.out 1).trans rfl
          have hcz35_2 : wc.cell? ⟨gb126, 2, none⟩ = some (.int .i64 a0_2) := (blk_cell BK126.out 2).trans rfl
          have hcz35_3 : wc.cell? ⟨gb126, 3, none⟩ = some (.int .i64 a0_3) := (blk_cell BK126.out 3).trans rfl
          have hcz35_4 : wc.cell? ⟨gb126, 4, none⟩ = some (.string a0_4) := (blk_cell BK126.out 4).trans rfl
          have hcz35_5 : wc.cell? ⟨gb126, 5, none⟩ = some (.slice A0_5 l0_5.length c0_5) := (blk_cell BK126.out 5).trans rfl
          have hfz35_0 := blk_frozen BK126.out 0
          have hfz35_1 := blk_frozen BK126.out 1
          have hfz35_2 := blk_frozen BK126.out 2
          have hfz35_3 := blk_frozen BK126.out 3
          have hfz35_4 := blk_frozen BK126.out 4
          have hfz35_5 := blk_frozen BK126.out 5
          go_wp2_with (first | ((with_reducible refine gate_dst (N := 51) rfl ?_); refine Kd.R_lit (Kd.int .i64) _ 3 ?hg (N := 51) ?hd (xs := ([a0_2, a0_3, a0_1] : List Int)) (inner := [.int .i64 a0_2, .int .i64 a0_3, .int .i64 a0_1]) (ok := fun _ => True) (okp := fun _ => True) ?hr ?hp (fun _ hk => hk) trivial (Below.refl _ _) (Nat.le_refl _) (by simp) ?_; (case hd => rfl); (case hg => rfl); (case hr => first | (go_simp; done) | (go_simp; rfl)); (case hp => exact (Reps.one (show Kd.M (Kd.int .i64) _ _ _ a0_2 [.int .i64 a0_2] from rfl) (Reps.one (show Kd.M (Kd.int .i64) _ _ _ a0_3 [.int .i64 a0_3] from rfl) (Reps.one (show Kd.M (Kd.int .i64) _ _ _ a0_1 [.int .i64 a0_1] from rfl) (Reps.none _ _))))); intro v146 w36 ho37 hb hg_ hnew_; clear hg_ hnew_; (first | rw [← Ny145.out] at ho37 | (simp only [Int.reduceToNat] at ho37; rw [← Ny145.out] at ho37)); have n0_ := Aside0.mk (Kd.R_elder' (by (with_reducible repeat (first | apply Kd.R_alloc | apply Kd.R_drewN | apply Kd.R_drew)); exact HO_5.out) (Kd.R_base ho37) hb); have n1_ := Aside0.mk (Kd.R_lower (Kd.R_new' ho37 (Kd.R_lt (by (with_reducible repeat (first | apply Kd.R_alloc | apply Kd.R_drewN | apply Kd.R_drew)); exact HO_5.out))) (below_size (by repeat (first | (with_reducible first | exact HB.out | apply below_alloc | apply pw_below_drewN | apply below_drew1 | refine below_set ?_ GE126.out) | exact HB.out)))); have n2_ := Aside0.mk (blk_below (g := gb126) (o := .cells #[.int .i64 a0_0, .int .i64 a0_1, .int .i64 a0_2, .int .i64 a0_3, .string a0_4, .slice A0_5 l0_5.length c0_5] 72 (0, 0)) (by (with_reducible repeat (first | refine blk_drewN ?_ _ | refine blk_drew ?_ | refine blk_alloc ?_ _)); exact BK126.out) hb); have n3_ := Aside0.mk (below_step (by repeat (first | (with_reducible first | exact HB.out | apply below_alloc | apply pw_below_drewN | apply below_drew1 | refine below_set ?_ GE126.out) | exact HB.out)) hb); clear HO_5; clear BK126; clear HB; have HO_5 := n0_; have HO147 := n1_; have BK126 := n2_; have HB := n3_; clear n0_ n1_ n2_ n3_; clear hb ho37; obtain ⟨Ao39, co39, eo39⟩ := Kd.R_slice HO147.out; subst eo39) | ((with_reducible refine gate_builtin (b := .append) (xs := #[.tmp 44, .tmp 51]) rfl ?_); at_builtin; refine Kd.R_append_rows (Kd.int .i64) (w0 := w) w.heap.size rfl (.tmp 44) (.tmp 51) 66 3 (.int .i64 0) 8 rfl Tryd.underlying66 info3 rfl (by decide) (by omega) v128 y127 y145 _ _ _ (fun k_ => some k_ ≠ (.slice Ao39 y145.length co39 : Value).ownBlock) (fun _ => False) rfl rfl ?aO ?aR (fun _ _ h => h) (fun _ h => h.elim) ?aF ?aB ?aS ?aL ?_; (case aR => repeat (first | exact (Kd.R_reads' HO147.out).2.2 | (with_reducible refine Kd.C_alloc ?_ _) | (with_reducible refine Kd.C_drewN ?_ _) | (with_reducible refine Kd.C_drew ?_))); (case aB => exact (by repeat (first | (with_reducible first | exact HB.out | apply below_alloc | apply pw_below_drewN | apply below_drew1 | refine below_set ?_ GE126.out) | exact HB.out))); (case aF => exact (fun k_ hk => Kd.fresh' (Kd.R_lt (by (with_reducible repeat (first | apply Kd.R_alloc | apply Kd.R_drewN | apply Kd.R_drew)); exact HO147.out)) k_ hk)); (case aO => exact (by (with_reducible repeat (first | apply Kd.R_alloc | apply Kd.R_drewN | apply Kd.R_drew)); exact Kd.R_mono HO_5.out (fun _ hk => hk.2))); (case aS => exact (below_size (by repeat (first | (with_reducible first | exact HB.out | apply below_alloc | apply pw_below_drewN | apply below_drew1 | refine below_set ?_ GE126.out) | exact HB.out)))); (case aL => have := LMc34.out; omega); intro v149 w38 ho hb hg hat; rw [← Ny148.out] at ho; have n0_ := Aside0.mk (blk_grown (g := gb126) (o := .cells #[.int .i64 a0_0, .int .i64 a0_1, .int .i64 a0_2, .int .i64 a0_3, .string a0_4, .slice A0_5 l0_5.length c0_5] 72 (0, 0)) (by (with_reducible repeat (first | refine blk_drewN ?_ _ | refine blk_drew ?_ | refine blk_alloc ?_ _)); exact BK126.out) hg (Kd.R_ne HO_5.out BK126.out (by decide))); have n1_ := Aside0.mk (Kd.R_after (ok := (fun _ => True)) (by (with_reducible repeat (first | apply Kd.R_alloc | apply Kd.R_drewN | apply Kd.R_drew)); exact HO147.out) hg hat); have n2_ := Aside0.mk (hb); have n3_ := Aside0.mk (ho); clear BK126; clear HO147; clear HB; clear HO_5; have BK126 := n0_; have HO147 := n1_; have HB := n2_; have HO150 := n3_; clear n0_ n1_ n2_ n3_; clear ho hb hg hat))
          go_ret
          exact ⟨_, by first | rfl | (simp [errW_none, errW_some] <;> rfl) | (simp [*, errW_none, errW_some] <;> rfl), by (with_reducible repeat (first | apply Kd.R_alloc | apply Kd.R_drewN | apply Kd.R_drew)); exact Kd.R_mono HO150.out (fun _ hk => trivial), by repeat (first | (with_reducible first | exact HB.out | apply below_alloc | apply pw_below_drewN | apply below_drew1 | refine below_set ?_ GE126.out) | exact HB.out)⟩
         ·rw [if_neg c34] at H
          exact absurd H (by simp)
        ·rw [if_neg c33] at H
         have c33b0 : (a0_0 == 13) = false := beq_eq_false_iff_ne.mpr c33
         have c33b1 : (a0_0 != 13) = true := bne_iff_ne.mpr c33
         by_cases c40 : a0_0 = 11
         ·rw [if_pos c40] at H
          have c40b0 : (a0_0 == 11) = true := beq_iff_eq.mpr c40
          have c40b1 : (a0_0 != 11) = false := bne_eq_false_iff_eq.mpr c40
          clear c40
          by_cases c41 : y127.length < 17592186044416
          ·rw [if_pos c41] at H
           have LMc41 := Aside0.mk c41
           clear c41
           obtain ⟨y151, hy151⟩ : ∃ y_ : List Int, y_ = (y127 ++ [a0_1]) := ⟨_, rfl⟩
           replace H : (if a1 = true then (if y151.length < 17592186044416 then (some (y151 ++ [a0_2])) else (none)) else (if y151.length + l0_5.length < 17592186044416 then (some (y151 ++ l0_5)) else (none))) = some r := by first | (rw [hy151]; with_reducible exact H) | (have H2_ := (Option.bind_some _ _).symm.trans H; rw [hy151]; with_reducible exact H2_) | (have H2_ := (Option.bind_some _ _).symm.trans H; with_reducible exact H2_) | with_reducible exact H | (rw [hy151]; exact H) | exact H
           have Ny151 := Aside0.mk hy151
           clear hy151
           by_cases c42 : a1 = true
           ·subst c42
            have H1 : (if y151.length < 17592186044416 then (some (y151 ++ [a0_2])) else (none)) = some r := by rw [if_pos rfl] at H; exact H
            clear H
            have H := H1
            clear H1
            by_cases c43 : y151.length < 17592186044416
            ·rw [if_pos c43] at H
             have LMc43 := Aside0.mk c43
             clear c43
             obtain ⟨y154, hy154⟩ : ∃ y_ : List Int, y_ = (y151 ++ [a0_2]) := ⟨_, rfl⟩
             replace H : (some y154) = some r := by first | (rw [hy154]; with_reducible exact H) | (have H2_ := (Option.bind_some _ _).symm.trans H; rw [hy154]; with_reducible exact H2_) | (have H2_ := (Option.bind_some _ _).symm.trans H; with_reducible exact H2_) | with_reducible exact H | (rw [hy154]; exact H) | exact H
             have Ny154 := Aside0.mk hy154
             clear hy154
             obtain rfl := Option.some.inj H
             have hcz44_0 : wc.cell? ⟨gb126, 0, none⟩ = some (.int .i64 a0_0) := (blk_cell BK126.out 0).trans rfl
             have hcz44_1 : wc.cell? ⟨gb126, 1, none⟩ = some (.int .i64 a0_1) := (blk_cell BK126.out 1).trans rfl
             have hcz44_2 : wc.cell? ⟨gb126, 2, none⟩ = some (.int .i64 a0_2) := (blk_cell BK126.out 2).trans rfl
             have hcz44_3 : wc.cell? ⟨gb126, 3, none⟩ = some (.int .i64 a0_3) := (blk_cell BK126.out 3).trans rfl
             have hcz44_4 : wc.cell? ⟨gb126, 4, none⟩ = some (.string a0_4) := (blk_cell BK126.out 4).trans rfl
             have hcz44_5 : wc.cell? ⟨gb126, 5, none⟩ = some (.slice A0_5 l0_5.length c0_5) := (blk_cell BK126.out 5).trans rfl
             have hfz44_0 := blk_frozen BK126.out 0
             have hfz44_1 := blk_frozen BK126.out 1
             have hfz44_2 := blk_frozen BK126.out 2
             have hfz44_3 := blk_frozen BK126.out 3
             have hfz44_4 := blk_frozen BK126.out 4
             have hfz44_5 := blk_frozen BK126.out 5
             go_wp2_with (first | ((with_reducible refine gate_builtin (b := .append) (xs := #[.tmp 55, .tmp 58]) rfl ?_); at_builtin; refine Kd.R_append (Kd.int .i64) (w0 := w) w.heap.size rfl (.tmp 55) (.tmp 58) 66 3 (.int .i64 0) 8 rfl Tryd.underlying66 info3 rfl (by decide) (by omega) v128 y127 a0_1 [.int .i64 a0_1] (fun _ => True) (fun _ => False) rfl rfl ?aP (fun _ hk => hk.elim) ?aF ?aO ?aB ?aS ?aL ?_; (case aP => exact rfl); (case aB => exact (by repeat (first | (with_reducible first | exact HB.out | apply below_alloc | apply pw_below_drewN | apply below_drew1 | refine below_set ?_ GE126.out) | exact HB.out))); (case aF => exact (fun _ _ => trivial)); (case aO => exact (by (with_reducible repeat (first | apply Kd.R_alloc | apply Kd.R_drewN | apply Kd.R_drew)); exact HO_5.out)); (case aS => exact (below_size (by repeat (first | (with_reducible first | exact HB.out | apply below_alloc | apply pw_below_drewN | apply below_drew1 | refine below_set ?_ GE126.out) | exact HB.out)))); (case aL => have := LMc41.out; omega); intro v152 w45 ho hb hg hat; rw [← Ny151.out] at ho; have n0_ := Aside0.mk (blk_grown (g := gb126) (o := .cells #[.int .i64 a0_0, .int .i64 a0_1, .int .i64 a0_2, .int .i64 a0_3, .string a0_4, .slice A0_5 l0_5.length c0_5] 72 (0, 0)) (by (with_reducible repeat (first | refine blk_drewN ?_ _ | refine blk_drew ?_ | refine blk_alloc ?_ _)); exact BK126.out) hg (Kd.R_ne HO_5.out BK126.out (by decide))); have n1_ := Aside0.mk (hb); have n2_ := Aside0.mk (ho); clear BK126; clear HB; clear HO_5; have BK126 := n0_; have HB := n1_; have HO153 := n2_; clear n0_ n1_ n2_; clear ho hb hg hat; have hcz46_0 : w45.cell? ⟨gb126, 0, none⟩ = some (.int .i64 a0_0) := (blk_cell BK126.out 0).trans rfl; have hcz46_1 : w45.cell? ⟨gb126, 1, none⟩ = some (.int .i64 a0_1) := (blk_cell BK126.out 1).trans rfl; have hcz46_2 : w45.cell? ⟨gb126, 2, none⟩ = some (.int .i64 a0_2) := (blk_cell BK126.out 2).trans rfl; have hcz46_3 : w45.cell? ⟨gb126, 3, none⟩ = some (.int .i64 a0_3) := (blk_cell BK126.out 3).trans rfl; have hcz46_4 : w45.cell? ⟨gb126, 4, none⟩ = some (.string a0_4) := (blk_cell BK126.out 4).trans rfl; have hcz46_5 : w45.cell? ⟨gb126, 5, none⟩ = some (.slice A0_5 l0_5.length c0_5) := (blk_cell BK126.out 5).trans rfl; have hfz46_0 := blk_frozen BK126.out 0; have hfz46_1 := blk_frozen BK126.out 1; have hfz46_2 := blk_frozen BK126.out 2; have hfz46_3 := blk_frozen BK126.out 3; have hfz46_4 := blk_frozen BK126.out 4; have hfz46_5 := blk_frozen BK126.out 5) | ((with_reducible refine gate_builtin (b := .append) (xs := #[.tmp 61, .tmp 64]) rfl ?_); at_builtin; refine Kd.R_append (Kd.int .i64) (w0 := w) w.heap.size rfl (.tmp 61) (.tmp 64) 66 3 (.int .i64 0) 8 rfl Tryd.underlying66 info3 rfl (by decide) (by omega) v152 y151 a0_2 [.int .i64 a0_2] (fun _ => True) (fun _ => False) rfl rfl ?aP (fun _ hk => hk.elim) ?aF ?aO ?aB ?aS ?aL ?_; (case aP => exact rfl); (case aB => exact (by repeat (first | (with_reducible first | exact HB.out | apply below_alloc | apply pw_below_drewN | apply below_drew1 | refine below_set ?_ GE126.out) | exact HB.out))); (case aF => exact (fun _ _ => trivial)); (case aO => exact (by (with_reducible repeat (first | apply Kd.R_alloc | apply Kd.R_drewN | apply Kd.R_drew)); exact HO153.out)); (case aS => exact (below_size (by repeat (first | (with_reducible first | exact HB.out | apply below_alloc | apply pw_below_drewN | apply below_drew1 | refine below_set ?_ GE126.out) | exact HB.out)))); (case aL => have := LMc43.out; omega); intro v155 w47 ho hb hg hat; rw [← Ny154.out] at ho; have n0_ := Aside0.mk (blk_grown (g := gb126) (o := .cells #[.int .i64 a0_0, .int .i64 a0_1, .int .i64 a0_2, .int .i64 a0_3, .string a0_4, .slice A0_5 l0_5.length c0_5] 72 (0, 0)) (by (with_reducible repeat (first | refine blk_drewN ?_ _ | refine blk_drew ?_ | refine blk_alloc ?_ _)); exact BK126.out) hg (Kd.R_ne HO153.out BK126.out (by decide))); have n1_ := Aside0.mk (hb); have n2_ := Aside0.mk (ho); clear BK126; clear HB; clear HO153; have BK126 := n0_; have HB := n1_; have HO156 := n2_; clear n0_ n1_ n2_; clear ho hb hg hat))
             go_ret
             exact ⟨_, by first | rfl | (simp [errW_none, errW_some] <;> rfl) | (simp [*, errW_none, errW_some] <;> rfl), by (with_reducible repeat (first | apply Kd.R_alloc | apply Kd.R_drewN | apply Kd.R_drew)); exact HO156.out, by repeat (first | (with_reducible first | exact HB.out | apply below_alloc | apply pw_below_drewN | apply below_drew1 | refine below_set ?_ GE126.out) | exact HB.out)⟩
            ·rw [if_neg c43] at H
             exact absurd H (by simp)
           ·replace c42 := Bool.eq_false_iff.mpr c42
            subst c42
            have H1 : (if y151.length + l0_5.length < 17592186044416 then (some (y151 ++ l0_5)) else (none)) = some r := by rw [if_neg (show ¬ (false = true) by decide)] at H; exact H
            clear H
            have H := H1
            clear H1
            by_cases c48 : y151.length + l0_5.length < 17592186044416
            ·rw [if_pos c48] at H
             have LMc48 := Aside0.mk c48
             clear c48
             obtain ⟨y157, hy157⟩ : ∃ y_ : List Int, y_ = (y151 ++ l0_5) := ⟨_, rfl⟩
             replace H : (some y157) = some r := by first | (rw [hy157]; with_reducible exact H) | (have H2_ := (Option.bind_some _ _).symm.trans H; rw [hy157]; with_reducible exact H2_) | (have H2_ := (Option.bind_some _ _).symm.trans H; with_reducible exact H2_) | with_reducible exact H | (rw [hy157]; exact H) | exact H
             have Ny157 := Aside0.mk hy157
             clear hy157
             obtain rfl := Option.some.inj H
             have hcz49_0 : wc.cell? ⟨gb126, 0, none⟩ = some (.int .i64 a0_0) := (blk_cell BK126.out 0).trans rfl
             have hcz49_1 : wc.cell? ⟨gb126, 1, none⟩ = some (.int .i64 a0_1) := (blk_cell BK126.out 1).trans rfl
             have hcz49_2 : wc.cell? ⟨gb126, 2, none⟩ = some (.int .i64 a0_2) := (blk_cell BK126.out 2).trans rfl
             have hcz49_3 : wc.cell? ⟨gb126, 3, none⟩ = some (.int .i64 a0_3) := (blk_cell BK126.out 3).trans rfl
             have hcz49_4 : wc.cell? ⟨gb126, 4, none⟩ = some (.string a0_4) := (blk_cell BK126.out 4).trans rfl
             have hcz49_5 : wc.cell? ⟨gb126, 5, none⟩ = some (.slice A0_5 l0_5.length c0_5) := (blk_cell BK126.out 5).trans rfl
             have hfz49_0 := blk_frozen BK126.out 0
             have hfz49_1 := blk_frozen BK126.out 1
             have hfz49_2 := blk_frozen BK126.out 2
             have hfz49_3 := blk_frozen BK126.out 3
             have hfz49_4 := blk_frozen BK126.out 4
             have hfz49_5 := blk_frozen BK126.out 5
             go_wp2_with (first | ((with_reducible refine gate_builtin (b := .append) (xs := #[.tmp 55, .tmp 58]) rfl ?_); at_builtin; refine Kd.R_append (Kd.int .i64) (w0 := w) w.heap.size rfl (.tmp 55) (.tmp 58) 66 3 (.int .i64 0) 8 rfl Tryd.underlying66 info3 rfl (by decide) (by omega) v128 y127 a0_1 [.int .i64 a0_1] (fun _ => True) (fun _ => False) rfl rfl ?aP (fun _ hk => hk.elim) ?aF ?aO ?aB ?aS ?aL ?_; (case aP => exact rfl); (case aB => exact (by repeat (first | (with_reducible first | exact HB.out | apply below_alloc | apply pw_below_drewN | apply below_drew1 | refine below_set ?_ GE126.out) | exact HB.out))); (case aF => exact (fun _ _ => trivial)); (case aO => exact (by (with_reducible repeat (first | apply Kd.R_alloc | apply Kd.R_drewN | apply Kd.R_drew)); exact HO_5.out)); (case aS => exact (below_size (by repeat (first | (with_reducible first | exact HB.out | apply below_alloc | apply pw_below_drewN | apply below_drew1 | refine below_set ?_ GE126.out) | exact HB.out)))); (case aL => have := LMc41.out; omega); intro v152 w50 ho hb hg hat; rw [← Ny151.out] at ho; have n0_ := Aside0.mk (blk_grown (g := gb126) (o := .cells #[.int .i64 a0_0, .int .i64 a0_1, .int .i64 a0_2, .int .i64 a0_3, .string a0_4, .slice A0_5 l0_5.length c0_5] 72 (0, 0)) (by (with_reducible repeat (first | refine blk_drewN ?_ _ | refine blk_drew ?_ | refine blk_alloc ?_ _)); exact BK126.out) hg (Kd.R_ne HO_5.out BK126.out (by decide))); have n1_ := Aside0.mk (hb); have n2_ := Aside0.mk (ho); clear BK126; clear HB; clear HO_5; have BK126 := n0_; have HB := n1_; have HO153 := n2_; clear n0_ n1_ n2_; clear ho hb hg hat; have hcz51_0 : w50.cell? ⟨gb126, 0, none⟩ = some (.int .i64 a0_0) := (blk_cell BK126.out 0).trans rfl; have hcz51_1 : w50.cell? ⟨gb126, 1, none⟩ = some (.int .i64 a0_1) := (blk_cell BK126.out 1).trans rfl; have hcz51_2 : w50.cell? ⟨gb126, 2, none⟩ = some (.int .i64 a0_2) := (blk_cell BK126.out 2).trans rfl; have hcz51_3 : w50.cell? ⟨gb126, 3, none⟩ = some (.int .i64 a0_3) := (blk_cell BK126.out 3).trans rfl; have hcz51_4 : w50.cell? ⟨gb126, 4, none⟩ = some (.string a0_4) := (blk_cell BK126.out 4).trans rfl; have hcz51_5 : w50.cell? ⟨gb126, 5, none⟩ = some (.slice A0_5 l0_5.length c0_5) := (blk_cell BK126.out 5).trans rfl; have hfz51_0 := blk_frozen BK126.out 0; have hfz51_1 := blk_frozen BK126.out 1; have hfz51_2 := blk_frozen BK126.out 2; have hfz51_3 := blk_frozen BK126.out 3; have hfz51_4 := blk_frozen BK126.out 4; have hfz51_5 := blk_frozen BK126.out 5) | ((with_reducible refine gate_builtin (b := .append) (xs := #[.tmp 66, .tmp 68]) rfl ?_); at_builtin; refine Kd.R_append_rows (Kd.int .i64) (w0 := w) w.heap.size rfl (.tmp 66) (.tmp 68) 66 3 (.int .i64 0) 8 rfl Tryd.underlying66 info3 rfl (by decide) (by omega) v152 y151 l0_5 _ _ _ (fun _ => True) (fun _ => False) rfl rfl ?aO ?aR (fun _ _ h => h) (fun _ h => h.elim) ?aF ?aB ?aS ?aL ?_; (case aR => repeat (first | exact (Kd.C_below HR0_5.out HB.out) | (with_reducible refine Kd.C_alloc ?_ _) | (with_reducible refine Kd.C_drewN ?_ _) | (with_reducible refine Kd.C_drew ?_))); (case aB => exact (by repeat (first | (with_reducible first | exact HB.out | apply below_alloc | apply pw_below_drewN | apply below_drew1 | refine below_set ?_ GE126.out) | exact HB.out))); (case aF => exact (fun _ _ => trivial)); (case aO => exact (by (with_reducible repeat (first | apply Kd.R_alloc | apply Kd.R_drewN | apply Kd.R_drew)); exact HO153.out)); (case aS => exact (below_size (by repeat (first | (with_reducible first | exact HB.out | apply below_alloc | apply pw_below_drewN | apply below_drew1 | refine below_set ?_ GE126.out) | exact HB.out)))); (case aL => have := LMc48.out; omega); intro v158 w52 ho hb hg hat; rw [← Ny157.out] at ho; have n0_ := Aside0.mk (blk_grown (g := gb126) (o := .cells #[.int .i64 a0_0, .int .i64 a0_1, .int .i64 a0_2, .int .i64 a0_3, .string a0_4, .slice A0_5 l0_5.length c0_5] 72 (0, 0)) (by (with_reducible repeat (first | refine blk_drewN ?_ _ | refine blk_drew ?_ | refine blk_alloc ?_ _)); exact BK126.out) hg (Kd.R_ne HO153.out BK126.out (by decide))); have n1_ := Aside0.mk (hb); have n2_ := Aside0.mk (ho); clear BK126; clear HB; clear HO153; have BK126 := n0_; have HB := n1_; have HO159 := n2_; clear n0_ n1_ n2_; clear ho hb hg hat))
             go_ret
             exact ⟨_, by first | rfl | (simp [errW_none, errW_some] <;> rfl) | (simp [*, errW_none, errW_some] <;> rfl), by (with_reducible repeat (first | apply Kd.R_alloc | apply Kd.R_drewN | apply Kd.R_drew)); exact HO159.out, by repeat (first | (with_reducible first | exact HB.out | apply below_alloc | apply pw_below_drewN | apply below_drew1 | refine below_set ?_ GE126.out) | exact HB.out)⟩
            ·rw [if_neg c48] at H
             exact absurd H (by simp)
          ·rw [if_neg c41] at H
           exact absurd H (by simp)
         ·rw [if_neg c40] at H
          have c40b0 : (a0_0 == 11) = false := beq_eq_false_iff_ne.mpr c40
          have c40b1 : (a0_0 != 11) = true := bne_iff_ne.mpr c40
          obtain ⟨y160, hy160⟩ : ∃ y_ : List Int, y_ = (([a0_1, a0_2] : List Int)) := ⟨_, rfl⟩
          replace H : (if y127.length + y160.length < 17592186044416 then (some (y127 ++ y160)) else (none)) = some r := by first | (rw [hy160]; with_reducible exact H) | (have H2_ := (Option.bind_some _ _).symm.trans H; rw [hy160]; with_reducible exact H2_) | (have H2_ := (Option.bind_some _ _).symm.trans H; with_reducible exact H2_) | with_reducible exact H | (rw [hy160]; exact H) | exact H
          have Ny160 := Aside0.mk hy160
          clear hy160
          by_cases c53 : y127.length + y160.length < 17592186044416
          ·rw [if_pos c53] at H
           have LMc53 := Aside0.mk c53
           clear c53
           obtain ⟨y163, hy163⟩ : ∃ y_ : List Int, y_ = (y127 ++ y160) := ⟨_, rfl⟩
           replace H : (some y163) = some r := by first | (rw [hy163]; with_reducible exact H) | (have H2_ := (Option.bind_some _ _).symm.trans H; rw [hy163]; with_reducible exact H2_) | (have H2_ := (Option.bind_some _ _).symm.trans H; with_reducible exact H2_) | with_reducible exact H | (rw [hy163]; exact H) | exact H
           have Ny163 := Aside0.mk hy163
           clear hy163
           obtain rfl := Option.some.inj H
           have hcz54_0 : wc.cell? ⟨gb126, 0, none⟩ = some (.int .i64 a0_0) := (blk_cell BK126.out 0).trans rfl
           have hcz54_1 : wc.cell? ⟨gb126, 1, none⟩ = some (.int .i64 a0_1) := (blk_cell BK126.out 1).trans rfl
           have hcz54_2 : wc.cell? ⟨gb126, 2, none⟩ = some (.int .i64 a0_2) := (blk_cell BK126.out 2).trans rfl
           have hcz54_3 : wc.cell? ⟨gb126, 3, none⟩ = some (.int .i64 a0_3) := (blk_cell BK126.out 3).trans rfl
           have hcz54_4 : wc.cell? ⟨gb126, 4, none⟩ = some (.string a0_4) := (blk_cell BK126.out 4).trans rfl
           have hcz54_5 : wc.cell? ⟨gb126, 5, none⟩ = some (.slice A0_5 l0_5.length c0_5) := (blk_cell BK126.out 5).trans rfl
           have hfz54_0 := blk_frozen BK126.out 0
           have hfz54_1 := blk_frozen BK126.out 1
           have hfz54_2 := blk_frozen BK126.out 2
           have hfz54_3 := blk_frozen BK126.out 3
           have hfz54_4 := blk_frozen BK126.out 4
           have hfz54_5 := blk_frozen BK126.out 5
           go_wp2_with (first | ((with_reducible refine gate_dst (N := 75) rfl ?_); refine Kd.R_lit (Kd.int .i64) _ 3 ?hg (N := 75) ?hd (xs := ([a0_1, a0_2] : List Int)) (inner := [.int .i64 a0_1, .int .i64 a0_2]) (ok := fun _ => True) (okp := fun _ => True) ?hr ?hp (fun _ hk => hk) trivial (Below.refl _ _) (Nat.le_refl _) (by simp) ?_; (case hd => rfl); (case hg => rfl); (case hr => first | (go_simp; done) | (go_simp; rfl)); (case hp => exact (Reps.one (show Kd.M (Kd.int .i64) _ _ _ a0_1 [.int .i64 a0_1] from rfl) (Reps.one (show Kd.M (Kd.int .i64) _ _ _ a0_2 [.int .i64 a0_2] from rfl) (Reps.none _ _)))); intro v161 w55 ho56 hb hg_ hnew_; clear hg_ hnew_; (first | rw [← Ny160.out] at ho56 | (simp only [Int.reduceToNat] at ho56; rw [← Ny160.out] at ho56)); have n0_ := Aside0.mk (Kd.R_elder' (by (with_reducible repeat (first | apply Kd.R_alloc | apply Kd.R_drewN | apply Kd.R_drew)); exact HO_5.out) (Kd.R_base ho56) hb); have n1_ := Aside0.mk (Kd.R_lower (Kd.R_new' ho56 (Kd.R_lt (by (with_reducible repeat (first | apply Kd.R_alloc | apply Kd.R_drewN | apply Kd.R_drew)); exact HO_5.out))) (below_size (by repeat (first | (with_reducible first | exact HB.out | apply below_alloc | apply pw_below_drewN | apply below_drew1 | refine below_set ?_ GE126.out) | exact HB.out)))); have n2_ := Aside0.mk (blk_below (g := gb126) (o := .cells #[.int .i64 a0_0, .int .i64 a0_1, .int .i64 a0_2, .int .i64 a0_3, .string a0_4, .slice A0_5 l0_5.length c0_5] 72 (0, 0)) (by (with_reducible repeat (first | refine blk_drewN ?_ _ | refine blk_drew ?_ | refine blk_alloc ?_ _)); exact BK126.out) hb); have n3_ := Aside0.mk (below_step (by repeat (first | (with_reducible first | exact HB.out | apply below_alloc | apply pw_below_drewN | apply below_drew1 | refine below_set ?_ GE126.out) | exact HB.out)) hb); clear HO_5; clear BK126; clear HB; have HO_5 := n0_; have HO162 := n1_; have BK126 := n2_; have HB := n3_; clear n0_ n1_ n2_ n3_; clear hb ho56; obtain ⟨Ao58, co58, eo58⟩ := Kd.R_slice HO162.out; subst eo58) | ((with_reducible refine gate_builtin (b := .append) (xs := #[.tmp 70, .tmp 75]) rfl ?_); at_builtin; refine Kd.R_append_rows (Kd.int .i64) (w0 := w) w.heap.size rfl (.tmp 70) (.tmp 75) 66 3 (.int .i64 0) 8 rfl Tryd.underlying66 info3 rfl (by decide) (by omega) v128 y127 y160 _ _ _ (fun k_ => some k_ ≠ (.slice Ao58 y160.length co58 : Value).ownBlock) (fun _ => False) rfl rfl ?aO ?aR (fun _ _ h => h) (fun _ h => h.elim) ?aF ?aB ?aS ?aL ?_; (case aR => repeat (first | exact (Kd.R_reads' HO162.out).2.2 | (with_reducible refine Kd.C_alloc ?_ _) | (with_reducible refine Kd.C_drewN ?_ _) | (with_reducible refine Kd.C_drew ?_))); (case aB => exact (by repeat (first | (with_reducible first | exact HB.out | apply below_alloc | apply pw_below_drewN | apply below_drew1 | refine below_set ?_ GE126.out) | exact HB.out))); (case aF => exact (fun k_ hk => Kd.fresh' (Kd.R_lt (by (with_reducible repeat (first | apply Kd.R_alloc | apply Kd.R_drewN | apply Kd.R_drew)); exact HO162.out)) k_ hk)); (case aO => exact (by (with_reducible repeat (first | apply Kd.R_alloc | apply Kd.R_drewN | apply Kd.R_drew)); exact Kd.R_mono HO_5.out (fun _ hk => hk.2))); (case aS => exact (below_size (by repeat (first | (with_reducible first | exact HB.out | apply below_alloc | apply pw_below_drewN | apply below_drew1 | refine below_set ?_ GE126.out) | exact HB.out)))); (case aL => have := LMc53.out; omega); intro v164 w57 ho hb hg hat; rw [← Ny163.out] at ho; have n0_ := Aside0.mk (blk_grown (g := gb126) (o := .cells #[.int .i64 a0_0, .int .i64 a0_1, .int .i64 a0_2, .int .i64 a0_3, .string a0_4, .slice A0_5 l0_5.length c0_5] 72 (0, 0)) (by (with_reducible repeat (first | refine blk_drewN ?_ _ | refine blk_drew ?_ | refine blk_alloc ?_ _)); exact BK126.out) hg (Kd.R_ne HO_5.out BK126.out (by decide))); have n1_ := Aside0.mk (Kd.R_after (ok := (fun _ => True)) (by (with_reducible repeat (first | apply Kd.R_alloc | apply Kd.R_drewN | apply Kd.R_drew)); exact HO162.out) hg hat); have n2_ := Aside0.mk (hb); have n3_ := Aside0.mk (ho); clear BK126; clear HO162; clear HB; clear HO_5; have BK126 := n0_; have HO162 := n1_; have HB := n2_; have HO165 := n3_; clear n0_ n1_ n2_ n3_; clear ho hb hg hat))
           go_ret
           exact ⟨_, by first | rfl | (simp [errW_none, errW_some] <;> rfl) | (simp [*, errW_none, errW_some] <;> rfl), by (with_reducible repeat (first | apply Kd.R_alloc | apply Kd.R_drewN | apply Kd.R_drew)); exact Kd.R_mono HO165.out (fun _ hk => trivial), by repeat (first | (with_reducible first | exact HB.out | apply below_alloc | apply pw_below_drewN | apply below_drew1 | refine below_set ?_ GE126.out) | exact HB.out)⟩
          ·rw [if_neg c53] at H
           exact absurd H (by simp)

end Go.Proofs.YtfibkajflenekaaDoor.PTx
