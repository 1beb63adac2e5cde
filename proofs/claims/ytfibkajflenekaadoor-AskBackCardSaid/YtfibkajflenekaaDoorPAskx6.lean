-- PRINTED by print.py (a twelfth state) out of the translation. Not trusted: Lean checks it.
import Derived.Test.YtfibkajflenekaaDoorPAskx0
import Derived.Test.YtfibkajflenekaaDoorPAskx3
import Derived.Test.YtfibkajflenekaaDoorPAskx4
import Derived.Test.YtfibkajflenekaaDoorPAskx5
namespace Go.Proofs.YtfibkajflenekaaDoor.PAsk
open Go.Proofs.YtfibkajflenekaaDoor.G
open Go.RowKit Go.Proofs.YtfibkajflenekaaDoorW.PrintWords Go.Proofs.YtfibkajflenekaaDoorW.PrintLast Go.Proofs.YtfibkajflenekaaDoorW.PrintMore
attribute [local go_sem] max2_int min2_int max_two min_two max_three min_three max_four min_four   -- for this text's walks alone
set_option linter.unusedVariables false
set_option linter.unusedSimpArgs false

/-! ### cubbyref21_Hear: function 10 -/
mutual
def cubbyref21_Hear.l0 : Nat → ByteArray → List ByteArray → List Int → Int → Option (Int × Int × Int × Int × ByteArray × Int)
  | 0, _, _, _, _ => none
  | k + 1, x0, x4, x5, x6 => if x6 < (x4.length : Int) then (cubbyref21_Hear.j1 k x0 x4 x5 x6 (decide (x6 < 4))) else (cubbyref21_Hear.j1 k x0 x4 x5 x6 false)
def cubbyref21_Hear.j1 : Nat → ByteArray → List ByteArray → List Int → Int → Bool → Option (Int × Int × Int × Int × ByteArray × Int)
  | 0, _, _, _, _, _ => none
  | k + 1, x0, x4, x5, x6, x23 => if x23 = true then (if 0 ≤ x6 then (if x6 < (x4.length : Int) then ((cubbyref08_Number.f k (rdOf ByteArray.empty x4 x6)).bind fun bt154 => (if bt154.2 = true then (if 0 ≤ (wrap64 (x6 - 1)) then (if (wrap64 (x6 - 1)) < (x5.length : Int) then (cubbyref21_Hear.l0 k x0 x4 (x5.set ((wrap64 (x6 - 1)) : Int).toNat bt154.1) (wrap64 (x6 + 1))) else (none)) else (none)) else (cubbyref21_Hear.l0 k x0 x4 x5 (wrap64 (x6 + 1))))) else (none)) else (none)) else (cubbyref21_Hear.l1 k x0 x5 1)
def cubbyref21_Hear.l1 : Nat → ByteArray → List Int → Int → Option (Int × Int × Int × Int × ByteArray × Int)
  | 0, _, _, _ => none
  | k + 1, x0, x5, x9 => if x9 ≤ 5 then (if x9 = 2 then (cubbyref21_Hear.j3 k x0 x5 x9 (decide ((x0.size : Int) > 4)) x9 0 0 0 (⟨#[]⟩ : ByteArray)) else (cubbyref21_Hear.j3 k x0 x5 x9 false x9 0 0 0 (⟨#[]⟩ : ByteArray))) else (some (0, 0, 0, 0, (⟨#[]⟩ : ByteArray), 210))
def cubbyref21_Hear.j3 : Nat → ByteArray → List Int → Int → Bool → Int → Int → Int → Int → ByteArray → Option (Int × Int × Int × Int × ByteArray × Int)
  | 0, _, _, _, _, _, _, _, _, _ => none
  | k + 1, x0, x5, x9, x52, x158000, x158001, x158002, x158003, x158004 => if x52 = true then (if 5 ≤ (x0.size : Int) then (cubbyref21_Hear.j4 k x0 x5 x9 x158000 x158001 x158002 x158003 (x0.extract 5 x0.size)) else (none)) else (cubbyref21_Hear.j4 k x0 x5 x9 x158000 x158001 x158002 x158003 x158004)
def cubbyref21_Hear.j4 : Nat → ByteArray → List Int → Int → Int → Int → Int → Int → ByteArray → Option (Int × Int × Int × Int × ByteArray × Int)
  | 0, _, _, _, _, _, _, _, _ => none
  | k + 1, x0, x5, x9, x158000, x158001, x158002, x158003, x158004 => if x9 = 1 then (cubbyref21_Hear.j5 k x0 x5 x9 true x158000 x158001 x158002 x158003 x158004) else (cubbyref21_Hear.j5 k x0 x5 x9 (decide (x9 > 3)) x158000 x158001 x158002 x158003 x158004)
def cubbyref21_Hear.j5 : Nat → ByteArray → List Int → Int → Bool → Int → Int → Int → Int → ByteArray → Option (Int × Int × Int × Int × ByteArray × Int)
  | 0, _, _, _, _, _, _, _, _, _ => none
  | k + 1, x0, x5, x9, x61, x158000, x158001, x158002, x158003, x158004 => if x61 = true then (if 0 < (x5.length : Int) then (cubbyref21_Hear.j6 k x0 x5 x9 x158000 (rd x5 0) x158002 x158003 x158004) else (none)) else (cubbyref21_Hear.j6 k x0 x5 x9 x158000 x158001 x158002 x158003 x158004)
def cubbyref21_Hear.j6 : Nat → ByteArray → List Int → Int → Int → Int → Int → Int → ByteArray → Option (Int × Int × Int × Int × ByteArray × Int)
  | 0, _, _, _, _, _, _, _, _ => none
  | k + 1, x0, x5, x9, x158000, x158001, x158002, x158003, x158004 => if x9 > 3 then (if 1 < (x5.length : Int) then (cubbyref21_Hear.j7 k x0 x5 x9 x158000 x158001 (rd x5 1) x158003 x158004) else (none)) else (cubbyref21_Hear.j7 k x0 x5 x9 x158000 x158001 x158002 x158003 x158004)
def cubbyref21_Hear.j7 : Nat → ByteArray → List Int → Int → Int → Int → Int → Int → ByteArray → Option (Int × Int × Int × Int × ByteArray × Int)
  | 0, _, _, _, _, _, _, _, _ => none
  | k + 1, x0, x5, x9, x158000, x158001, x158002, x158003, x158004 => if x9 = 5 then (if 2 < (x5.length : Int) then ((cubbyref21_Tell.f k x158000 x158001 x158002 (rd x5 2) x158004).bind fun bt161 => (if bt161.2 = 0 then (if bt161.1.toList = x0.toList then (some (x158000, x158001, x158002, rd x5 2, x158004, 0)) else (cubbyref21_Hear.l1 k x0 x5 (wrap64 (x9 + 1)))) else (cubbyref21_Hear.l1 k x0 x5 (wrap64 (x9 + 1))))) else (none)) else ((cubbyref21_Tell.f k x158000 x158001 x158002 x158003 x158004).bind fun bt163 => (if bt163.2 = 0 then (if bt163.1.toList = x0.toList then (some (x158000, x158001, x158002, x158003, x158004, 0)) else (cubbyref21_Hear.l1 k x0 x5 (wrap64 (x9 + 1)))) else (cubbyref21_Hear.l1 k x0 x5 (wrap64 (x9 + 1)))))
end
def cubbyref21_Hear.f (k : Nat) (a0 : ByteArray) : Option (Int × Int × Int × Int × ByteArray × Int) := (cubbyref21_words.f k a0).bind fun t147 => (cubbyref21_Hear.l0 k a0 t147 (([0, 0, 0] : List Int)) 1)
theorem cubbyref21_Hear.mono_l : ∀ k, (∀ y0 y1 y2 y3, LeO (cubbyref21_Hear.l0 k y0 y1 y2 y3) (cubbyref21_Hear.l0 (k + 1) y0 y1 y2 y3)) ∧ (∀ y0 y1 y2 y3 y4, LeO (cubbyref21_Hear.j1 k y0 y1 y2 y3 y4) (cubbyref21_Hear.j1 (k + 1) y0 y1 y2 y3 y4)) ∧ (∀ y0 y1 y2, LeO (cubbyref21_Hear.l1 k y0 y1 y2) (cubbyref21_Hear.l1 (k + 1) y0 y1 y2)) ∧ (∀ y0 y1 y2 y3 y4 y5 y6 y7 y8, LeO (cubbyref21_Hear.j3 k y0 y1 y2 y3 y4 y5 y6 y7 y8) (cubbyref21_Hear.j3 (k + 1) y0 y1 y2 y3 y4 y5 y6 y7 y8)) ∧ (∀ y0 y1 y2 y3 y4 y5 y6 y7, LeO (cubbyref21_Hear.j4 k y0 y1 y2 y3 y4 y5 y6 y7) (cubbyref21_Hear.j4 (k + 1) y0 y1 y2 y3 y4 y5 y6 y7)) ∧ (∀ y0 y1 y2 y3 y4 y5 y6 y7 y8, LeO (cubbyref21_Hear.j5 k y0 y1 y2 y3 y4 y5 y6 y7 y8) (cubbyref21_Hear.j5 (k + 1) y0 y1 y2 y3 y4 y5 y6 y7 y8)) ∧ (∀ y0 y1 y2 y3 y4 y5 y6 y7, LeO (cubbyref21_Hear.j6 k y0 y1 y2 y3 y4 y5 y6 y7) (cubbyref21_Hear.j6 (k + 1) y0 y1 y2 y3 y4 y5 y6 y7)) ∧ (∀ y0 y1 y2 y3 y4 y5 y6 y7, LeO (cubbyref21_Hear.j7 k y0 y1 y2 y3 y4 y5 y6 y7) (cubbyref21_Hear.j7 (k + 1) y0 y1 y2 y3 y4 y5 y6 y7))
  | 0 => ⟨fun _ _ _ _ r h => by simp [cubbyref21_Hear.l0] at h, fun _ _ _ _ _ r h => by simp [cubbyref21_Hear.j1] at h, fun _ _ _ r h => by simp [cubbyref21_Hear.l1] at h, fun _ _ _ _ _ _ _ _ _ r h => by simp [cubbyref21_Hear.j3] at h, fun _ _ _ _ _ _ _ _ r h => by simp [cubbyref21_Hear.j4] at h, fun _ _ _ _ _ _ _ _ _ r h => by simp [cubbyref21_Hear.j5] at h, fun _ _ _ _ _ _ _ _ r h => by simp [cubbyref21_Hear.j6] at h, fun _ _ _ _ _ _ _ _ r h => by simp [cubbyref21_Hear.j7] at h⟩
  | k + 1 => by
    obtain ⟨ih0, ih1, ih2, ih3, ih4, ih5, ih6, ih7⟩ := cubbyref21_Hear.mono_l k
    refine ⟨?_, ?_, ?_, ?_, ?_, ?_, ?_, ?_⟩
    · intro y0 y1 y2 y3
      unfold cubbyref21_Hear.l0
      repeat' first
      | (with_reducible exact ih0 _ _ _ _)
      | (with_reducible exact ih1 _ _ _ _ _)
      | (with_reducible exact ih2 _ _ _)
      | (with_reducible exact ih3 _ _ _ _ _ _ _ _ _)
      | (with_reducible exact ih4 _ _ _ _ _ _ _ _)
      | (with_reducible exact ih5 _ _ _ _ _ _ _ _ _)
      | (with_reducible exact ih6 _ _ _ _ _ _ _ _)
      | (with_reducible exact ih7 _ _ _ _ _ _ _ _)
      | (with_reducible exact cubbyref08_Number.mono _ _)
      | (with_reducible exact cubbyref21_Tell.mono _ _ _ _ _ _)
      | (with_reducible exact cubbyref21_words.mono _ _)
      | (with_reducible exact LeO.refl _)
      | (with_reducible exact LeO.none _)
      | (with_reducible refine LeO.ite ?_ ?_)
      | (with_reducible refine LeO.bind ?_ (fun _ => ?_))
      | exact ih0 _ _ _ _
      | exact ih1 _ _ _ _ _
      | exact ih2 _ _ _
      | exact ih3 _ _ _ _ _ _ _ _ _
      | exact ih4 _ _ _ _ _ _ _ _
      | exact ih5 _ _ _ _ _ _ _ _ _
      | exact ih6 _ _ _ _ _ _ _ _
      | exact ih7 _ _ _ _ _ _ _ _
      | exact cubbyref08_Number.mono _ _
      | exact cubbyref21_Tell.mono _ _ _ _ _ _
      | exact cubbyref21_words.mono _ _
      | exact LeO.none _
      | refine LeO.ite ?_ ?_
      | refine LeO.bind ?_ (fun _ => ?_)
    · intro y0 y1 y2 y3 y4
      unfold cubbyref21_Hear.j1
      repeat' first
      | (with_reducible exact ih0 _ _ _ _)
      | (with_reducible exact ih1 _ _ _ _ _)
      | (with_reducible exact ih2 _ _ _)
      | (with_reducible exact ih3 _ _ _ _ _ _ _ _ _)
      | (with_reducible exact ih4 _ _ _ _ _ _ _ _)
      | (with_reducible exact ih5 _ _ _ _ _ _ _ _ _)
      | (with_reducible exact ih6 _ _ _ _ _ _ _ _)
      | (with_reducible exact ih7 _ _ _ _ _ _ _ _)
      | (with_reducible exact cubbyref08_Number.mono _ _)
      | (with_reducible exact cubbyref21_Tell.mono _ _ _ _ _ _)
      | (with_reducible exact cubbyref21_words.mono _ _)
      | (with_reducible exact LeO.refl _)
      | (with_reducible exact LeO.none _)
      | (with_reducible refine LeO.ite ?_ ?_)
      | (with_reducible refine LeO.bind ?_ (fun _ => ?_))
      | exact ih0 _ _ _ _
      | exact ih1 _ _ _ _ _
      | exact ih2 _ _ _
      | exact ih3 _ _ _ _ _ _ _ _ _
      | exact ih4 _ _ _ _ _ _ _ _
      | exact ih5 _ _ _ _ _ _ _ _ _
      | exact ih6 _ _ _ _ _ _ _ _
      | exact ih7 _ _ _ _ _ _ _ _
      | exact cubbyref08_Number.mono _ _
      | exact cubbyref21_Tell.mono _ _ _ _ _ _
      | exact cubbyref21_words.mono _ _
      | exact LeO.none _
      | refine LeO.ite ?_ ?_
      | refine LeO.bind ?_ (fun _ => ?_)
    · intro y0 y1 y2
      unfold cubbyref21_Hear.l1
      repeat' first
      | (with_reducible exact ih0 _ _ _ _)
      | (with_reducible exact ih1 _ _ _ _ _)
      | (with_reducible exact ih2 _ _ _)
      | (with_reducible exact ih3 _ _ _ _ _ _ _ _ _)
      | (with_reducible exact ih4 _ _ _ _ _ _ _ _)
      | (with_reducible exact ih5 _ _ _ _ _ _ _ _ _)
      | (with_reducible exact ih6 _ _ _ _ _ _ _ _)
      | (with_reducible exact ih7 _ _ _ _ _ _ _ _)
      | (with_reducible exact cubbyref08_Number.mono _ _)
      | (with_reducible exact cubbyref21_Tell.mono _ _ _ _ _ _)
      | (with_reducible exact cubbyref21_words.mono _ _)
      | (with_reducible exact LeO.refl _)
      | (with_reducible exact LeO.none _)
      | (with_reducible refine LeO.ite ?_ ?_)
      | (with_reducible refine LeO.bind ?_ (fun _ => ?_))
      | exact ih0 _ _ _ _
      | exact ih1 _ _ _ _ _
      | exact ih2 _ _ _
      | exact ih3 _ _ _ _ _ _ _ _ _
      | exact ih4 _ _ _ _ _ _ _ _
      | exact ih5 _ _ _ _ _ _ _ _ _
      | exact ih6 _ _ _ _ _ _ _ _
      | exact ih7 _ _ _ _ _ _ _ _
      | exact cubbyref08_Number.mono _ _
      | exact cubbyref21_Tell.mono _ _ _ _ _ _
      | exact cubbyref21_words.mono _ _
      | exact LeO.none _
      | refine LeO.ite ?_ ?_
      | refine LeO.bind ?_ (fun _ => ?_)
    · intro y0 y1 y2 y3 y4 y5 y6 y7 y8
      unfold cubbyref21_Hear.j3
      repeat' first
      | (with_reducible exact ih0 _ _ _ _)
      | (with_reducible exact ih1 _ _ _ _ _)
      | (with_reducible exact ih2 _ _ _)
      | (with_reducible exact ih3 _ _ _ _ _ _ _ _ _)
      | (with_reducible exact ih4 _ _ _ _ _ _ _ _)
      | (with_reducible exact ih5 _ _ _ _ _ _ _ _ _)
      | (with_reducible exact ih6 _ _ _ _ _ _ _ _)
      | (with_reducible exact ih7 _ _ _ _ _ _ _ _)
      | (with_reducible exact cubbyref08_Number.mono _ _)
      | (with_reducible exact cubbyref21_Tell.mono _ _ _ _ _ _)
      | (with_reducible exact cubbyref21_words.mono _ _)
      | (with_reducible exact LeO.refl _)
      | (with_reducible exact LeO.none _)
      | (with_reducible refine LeO.ite ?_ ?_)
      | (with_reducible refine LeO.bind ?_ (fun _ => ?_))
      | exact ih0 _ _ _ _
      | exact ih1 _ _ _ _ _
      | exact ih2 _ _ _
      | exact ih3 _ _ _ _ _ _ _ _ _
      | exact ih4 _ _ _ _ _ _ _ _
      | exact ih5 _ _ _ _ _ _ _ _ _
      | exact ih6 _ _ _ _ _ _ _ _
      | exact ih7 _ _ _ _ _ _ _ _
      | exact cubbyref08_Number.mono _ _
      | exact cubbyref21_Tell.mono _ _ _ _ _ _
      | exact cubbyref21_words.mono _ _
      | exact LeO.none _
      | refine LeO.ite ?_ ?_
      | refine LeO.bind ?_ (fun _ => ?_)
    · intro y0 y1 y2 y3 y4 y5 y6 y7
      unfold cubbyref21_Hear.j4
      repeat' first
      | (with_reducible exact ih0 _ _ _ _)
      | (with_reducible exact ih1 _ _ _ _ _)
      | (with_reducible exact ih2 _ _ _)
      | (with_reducible exact ih3 _ _ _ _ _ _ _ _ _)
      | (with_reducible exact ih4 _ _ _ _ _ _ _ _)
      | (with_reducible exact ih5 _ _ _ _ _ _ _ _ _)
      | (with_reducible exact ih6 _ _ _ _ _ _ _ _)
      | (with_reducible exact ih7 _ _ _ _ _ _ _ _)
      | (with_reducible exact cubbyref08_Number.mono _ _)
      | (with_reducible exact cubbyref21_Tell.mono _ _ _ _ _ _)
      | (with_reducible exact cubbyref21_words.mono _ _)
      | (with_reducible exact LeO.refl _)
      | (with_reducible exact LeO.none _)
      | (with_reducible refine LeO.ite ?_ ?_)
      | (with_reducible refine LeO.bind ?_ (fun _ => ?_))
      | exact ih0 _ _ _ _
      | exact ih1 _ _ _ _ _
      | exact ih2 _ _ _
      | exact ih3 _ _ _ _ _ _ _ _ _
      | exact ih4 _ _ _ _ _ _ _ _
      | exact ih5 _ _ _ _ _ _ _ _ _
      | exact ih6 _ _ _ _ _ _ _ _
      | exact ih7 _ _ _ _ _ _ _ _
      | exact cubbyref08_Number.mono _ _
      | exact cubbyref21_Tell.mono _ _ _ _ _ _
      | exact cubbyref21_words.mono _ _
      | exact LeO.none _
      | refine LeO.ite ?_ ?_
      | refine LeO.bind ?_ (fun _ => ?_)
    · intro y0 y1 y2 y3 y4 y5 y6 y7 y8
      unfold cubbyref21_Hear.j5
      repeat' first
      | (with_reducible exact ih0 _ _ _ _)
      | (with_reducible exact ih1 _ _ _ _ _)
      | (with_reducible exact ih2 _ _ _)
      | (with_reducible exact ih3 _ _ _ _ _ _ _ _ _)
      | (with_reducible exact ih4 _ _ _ _ _ _ _ _)
      | (with_reducible exact ih5 _ _ _ _ _ _ _ _ _)
      | (with_reducible exact ih6 _ _ _ _ _ _ _ _)
      | (with_reducible exact ih7 _ _ _ _ _ _ _ _)
      | (with_reducible exact cubbyref08_Number.mono _ _)
      | (with_reducible exact cubbyref21_Tell.mono _ _ _ _ _ _)
      | (with_reducible exact cubbyref21_words.mono _ _)
      | (with_reducible exact LeO.refl _)
      | (with_reducible exact LeO.none _)
      | (with_reducible refine LeO.ite ?_ ?_)
      | (with_reducible refine LeO.bind ?_ (fun _ => ?_))
      | exact ih0 _ _ _ _
      | exact ih1 _ _ _ _ _
      | exact ih2 _ _ _
      | exact ih3 _ _ _ _ _ _ _ _ _
      | exact ih4 _ _ _ _ _ _ _ _
      | exact ih5 _ _ _ _ _ _ _ _ _
      | exact ih6 _ _ _ _ _ _ _ _
      | exact ih7 _ _ _ _ _ _ _ _
      | exact cubbyref08_Number.mono _ _
      | exact cubbyref21_Tell.mono _ _ _ _ _ _
      | exact cubbyref21_words.mono _ _
      | exact LeO.none _
      | refine LeO.ite ?_ ?_
      | refine LeO.bind ?_ (fun _ => ?_)
    · intro y0 y1 y2 y3 y4 y5 y6 y7
      unfold cubbyref21_Hear.j6
      repeat' first
      | (with_reducible exact ih0 _ _ _ _)
      | (with_reducible exact ih1 _ _ _ _ _)
      | (with_reducible exact ih2 _ _ _)
      | (with_reducible exact ih3 _ _ _ _ _ _ _ _ _)
      | (with_reducible exact ih4 _ _ _ _ _ _ _ _)
      | (with_reducible exact ih5 _ _ _ _ _ _ _ _ _)
      | (with_reducible exact ih6 _ _ _ _ _ _ _ _)
      | (with_reducible exact ih7 _ _ _ _ _ _ _ _)
      | (with_reducible exact cubbyref08_Number.mono _ _)
      | (with_reducible exact cubbyref21_Tell.mono _ _ _ _ _ _)
      | (with_reducible exact cubbyref21_words.mono _ _)
      | (with_reducible exact LeO.refl _)
      | (with_reducible exact LeO.none _)
      | (with_reducible refine LeO.ite ?_ ?_)
      | (with_reducible refine LeO.bind ?_ (fun _ => ?_))
      | exact ih0 _ _ _ _
      | exact ih1 _ _ _ _ _
      | exact ih2 _ _ _
      | exact ih3 _ _ _ _ _ _ _ _ _
      | exact ih4 _ _ _ _ _ _ _ _
      | exact ih5 _ _ _ _ _ _ _ _ _
      | exact ih6 _ _ _ _ _ _ _ _
      | exact ih7 _ _ _ _ _ _ _ _
      | exact cubbyref08_Number.mono _ _
      | exact cubbyref21_Tell.mono _ _ _ _ _ _
      | exact cubbyref21_words.mono _ _
      | exact LeO.none _
      | refine LeO.ite ?_ ?_
      | refine LeO.bind ?_ (fun _ => ?_)
    · intro y0 y1 y2 y3 y4 y5 y6 y7
      unfold cubbyref21_Hear.j7
      repeat' first
      | (with_reducible exact ih0 _ _ _ _)
      | (with_reducible exact ih1 _ _ _ _ _)
      | (with_reducible exact ih2 _ _ _)
      | (with_reducible exact ih3 _ _ _ _ _ _ _ _ _)
      | (with_reducible exact ih4 _ _ _ _ _ _ _ _)
      | (with_reducible exact ih5 _ _ _ _ _ _ _ _ _)
      | (with_reducible exact ih6 _ _ _ _ _ _ _ _)
      | (with_reducible exact ih7 _ _ _ _ _ _ _ _)
      | (with_reducible exact cubbyref08_Number.mono _ _)
      | (with_reducible exact cubbyref21_Tell.mono _ _ _ _ _ _)
      | (with_reducible exact cubbyref21_words.mono _ _)
      | (with_reducible exact LeO.refl _)
      | (with_reducible exact LeO.none _)
      | (with_reducible refine LeO.ite ?_ ?_)
      | (with_reducible refine LeO.bind ?_ (fun _ => ?_))
      | exact ih0 _ _ _ _
      | exact ih1 _ _ _ _ _
      | exact ih2 _ _ _
      | exact ih3 _ _ _ _ _ _ _ _ _
      | exact ih4 _ _ _ _ _ _ _ _
      | exact ih5 _ _ _ _ _ _ _ _ _
      | exact ih6 _ _ _ _ _ _ _ _
      | exact ih7 _ _ _ _ _ _ _ _
      | exact cubbyref08_Number.mono _ _
      | exact cubbyref21_Tell.mono _ _ _ _ _ _
      | exact cubbyref21_words.mono _ _
      | exact LeO.none _
      | refine LeO.ite ?_ ?_
      | refine LeO.bind ?_ (fun _ => ?_)
theorem cubbyref21_Hear.mono : ∀ a0 k, LeO (cubbyref21_Hear.f k a0) (cubbyref21_Hear.f (k + 1) a0) := by
  intro a0 k
  obtain ⟨ih0, ih1, ih2, ih3, ih4, ih5, ih6, ih7⟩ := cubbyref21_Hear.mono_l k
  unfold cubbyref21_Hear.f
  repeat' first
      | (with_reducible exact ih0 _ _ _ _)
      | (with_reducible exact ih1 _ _ _ _ _)
      | (with_reducible exact ih2 _ _ _)
      | (with_reducible exact ih3 _ _ _ _ _ _ _ _ _)
      | (with_reducible exact ih4 _ _ _ _ _ _ _ _)
      | (with_reducible exact ih5 _ _ _ _ _ _ _ _ _)
      | (with_reducible exact ih6 _ _ _ _ _ _ _ _)
      | (with_reducible exact ih7 _ _ _ _ _ _ _ _)
      | (with_reducible exact cubbyref08_Number.mono _ _)
      | (with_reducible exact cubbyref21_Tell.mono _ _ _ _ _ _)
      | (with_reducible exact cubbyref21_words.mono _ _)
      | (with_reducible exact LeO.refl _)
      | (with_reducible exact LeO.none _)
      | (with_reducible refine LeO.ite ?_ ?_)
      | (with_reducible refine LeO.bind ?_ (fun _ => ?_))
      | exact ih0 _ _ _ _
      | exact ih1 _ _ _ _ _
      | exact ih2 _ _ _
      | exact ih3 _ _ _ _ _ _ _ _ _
      | exact ih4 _ _ _ _ _ _ _ _
      | exact ih5 _ _ _ _ _ _ _ _ _
      | exact ih6 _ _ _ _ _ _ _ _
      | exact ih7 _ _ _ _ _ _ _ _
      | exact cubbyref08_Number.mono _ _
      | exact cubbyref21_Tell.mono _ _ _ _ _ _
      | exact cubbyref21_words.mono _ _
      | exact LeO.none _
      | refine LeO.ite ?_ ?_
      | refine LeO.bind ?_ (fun _ => ?_)
set_option maxHeartbeats 8000000 in
set_option maxRecDepth 100000 in
theorem cubbyref21_Hear.calls (k : Nat) (a0 : ByteArray) (r1 : Int) (r2 : Int) (r3 : Int) (r4 : Int) (r5 : ByteArray) (r6 : Int) (w : World) (hG : GW w) (h : cubbyref21_Hear.f k a0 = some (r1, r2, r3, r4, r5, r6)) :
    Calls Tryd.prog 10 #[.string a0] w fun e w' => e = .returned (.tuple #[.agg #[.int .i64 r1, .int .i64 r2, .int .i64 r3, .int .i64 r4, .string r5], .int .i64 r6]) ∧ Below w.heap.size w w' := by
  have hu34 := Tryd.underlying34
  have hGA := Aside0.mk hG
  clear hG
  have HB := Aside0.mk (Below.refl w.heap.size w)
  have H : ((cubbyref21_words.f k a0).bind fun t147 => (cubbyref21_Hear.l0 k a0 t147 (([0, 0, 0] : List Int)) 1)) = some (r1, r2, r3, r4, r5, r6) := h
  clear h
  replace H := Option.bind_eq_some_iff.mp H
  obtain ⟨t147, A20, H⟩ := H
  replace H : (cubbyref21_Hear.l0 k a0 t147 (([0, 0, 0] : List Int)) 1) = some (r1, r2, r3, r4, r5, r6) := H
  have A2 := Aside0.mk A20
  clear A20
  obtain ⟨y150, hy150⟩ : ∃ y_ : List Int, y_ = (([0, 0, 0] : List Int)) := ⟨_, rfl⟩
  replace H : (cubbyref21_Hear.l0 k a0 t147 y150 1) = some (r1, r2, r3, r4, r5, r6) := by first | (rw [hy150]; with_reducible exact H) | (have H2_ := (Option.bind_some _ _).symm.trans H; rw [hy150]; with_reducible exact H2_) | (have H2_ := (Option.bind_some _ _).symm.trans H; with_reducible exact H2_) | with_reducible exact H | (rw [hy150]; exact H) | exact H
  have Ny150 := Aside0.mk hy150
  clear hy150
  have H' := Aside0.mk H
  clear H
  go_enter Tryd.func10, Tryd.ntmps10
  go_wp2_with (first | ((with_reducible refine gate_dst (N := 2) rfl ?_); (try (refine gate_guard (by rfl) ?_; dsimp only)); refine box_event ?hg (N := 2) ?hd (cs := #[.int .i64 0, .int .i64 0, .int .i64 0, .int .i64 0, .string (⟨#[]⟩ : ByteArray)]) (t := 34) ?hr ?_; (case hd => rfl); (case hg => rfl); (case hr => first | (go_simp; done) | (go_simp; rfl)); intro gb146 hg w3 hbox hb; have n0_ := Aside0.mk (below_step (by repeat (first | (with_reducible first | exact HB.out | apply below_alloc | apply pw_below_drewN | apply below_drew1) | exact HB.out)) hb); have n1_ := Aside0.mk (hbox); have n2_ := Aside0.mk ((by rw [hg]; exact (below_size (by repeat (first | (with_reducible first | exact HB.out | apply below_alloc | apply pw_below_drewN | apply below_drew1) | exact HB.out))) : w.heap.size ≤ gb146)); have n3_ := Aside0.mk ((by rw [hg]; exact (below_size (by repeat (first | (with_reducible first | exact HB.out | apply below_alloc | apply pw_below_drewN | apply below_drew1) | exact HB.out))) : w.heap.size ≤ gb146)); clear HB; have HB := n0_; have BK146 := n1_; have GW146 := n2_; have GE146 := n3_; clear n0_ n1_ n2_ n3_; clear hb hbox hg) | ((with_reducible refine gate_callee (f := 28) rfl ?_); refine goesL_ (some 14) rfl rfl Tryd.func28 (by kernel_rfl) rfl #[.string a0] rfl (by (try simp only [List.map_toArray, List.map_cons, List.map_nil]); first | done | rfl | (simp only [List.length_drop, List.length_take]; rfl)) ?_; (with_reducible refine (cubbyref21_words.calls k a0 t147 _ ?side1 A2.out).mono ?_); (case side1 => exact GW_below hGA.out (by repeat (first | (with_reducible first | exact HB.out | apply below_alloc | apply pw_below_drewN | apply below_drew1 | refine below_set ?_ GE146.out) | exact HB.out))); rintro e w4 ⟨v148, rfl, ho0, hb⟩; refine ⟨_, rfl, ?_⟩; have n0_ := Aside0.mk (Kd.R_lower ho0 (below_size (by repeat (first | (with_reducible first | exact HB.out | apply below_alloc | apply pw_below_drewN | apply below_drew1 | refine below_set ?_ GE146.out) | exact HB.out)))); have n1_ := Aside0.mk (blk_below (g := gb146) (o := .cells #[.int .i64 0, .int .i64 0, .int .i64 0, .int .i64 0, .string (⟨#[]⟩ : ByteArray)] 34 (0, 0)) (by (with_reducible repeat (first | refine blk_drewN ?_ _ | refine blk_drew ?_ | refine blk_alloc ?_ _)); exact BK146.out) hb); have n2_ := Aside0.mk (below_step (by repeat (first | (with_reducible first | exact HB.out | apply below_alloc | apply pw_below_drewN | apply below_drew1 | refine below_set ?_ GE146.out) | exact HB.out)) hb); clear BK146; clear HB; have HO149 := n0_; have BK146 := n1_; have HB := n2_; clear n0_ n1_ n2_; (try clear hb); (try clear hb2); (try clear hk); (try clear hi); (try clear ho0)) | ((with_reducible refine gate_dst (N := 15) rfl ?_); (try (refine gate_guard (by rfl) ?_; dsimp only)); refine Kd.R_lit (Kd.int .i64) _ 3 ?hg (N := 15) ?hd (xs := ([0, 0, 0] : List Int)) (inner := [.int .i64 0, .int .i64 0, .int .i64 0]) (ok := fun _ => True) (okp := fun _ => True) ?hr ?hp (fun _ hk => hk) trivial (Below.refl _ _) (Nat.le_refl _) (by simp) ?_; (case hd => rfl); (case hg => rfl); (case hr => first | (go_simp; done) | (go_simp; rfl)); (case hp => exact (Reps.one (show Kd.M (Kd.int .i64) _ _ _ 0 [.int .i64 0] from rfl) (Reps.one (show Kd.M (Kd.int .i64) _ _ _ 0 [.int .i64 0] from rfl) (Reps.one (show Kd.M (Kd.int .i64) _ _ _ 0 [.int .i64 0] from rfl) (Reps.none _ _))))); intro v151 w5 ho6 hb hg_ hnew_; clear hg_ hnew_; (first | rw [← Ny150.out] at ho6 | (simp only [Int.reduceToNat] at ho6; rw [← Ny150.out] at ho6)); have n0_ := Aside0.mk (Kd.R_below (by (with_reducible repeat (first | apply Kd.R_alloc | apply Kd.R_drewN | apply Kd.R_drew)); exact HO149.out) hb); have n1_ := Aside0.mk (Kd.R_lower ho6 (below_size (by repeat (first | (with_reducible first | exact HB.out | apply below_alloc | apply pw_below_drewN | apply below_drew1 | refine below_set ?_ GE146.out) | exact HB.out)))); have n2_ := Aside0.mk (blk_below (g := gb146) (o := .cells #[.int .i64 0, .int .i64 0, .int .i64 0, .int .i64 0, .string (⟨#[]⟩ : ByteArray)] 34 (0, 0)) (by (with_reducible repeat (first | refine blk_drewN ?_ _ | refine blk_drew ?_ | refine blk_alloc ?_ _)); exact BK146.out) hb); have n3_ := Aside0.mk (below_step (by repeat (first | (with_reducible first | exact HB.out | apply below_alloc | apply pw_below_drewN | apply below_drew1 | refine below_set ?_ GE146.out) | exact HB.out)) hb); clear HO149; clear BK146; clear HB; have HO149 := n0_; have HO152 := n1_; have BK146 := n2_; have HB := n3_; clear n0_ n1_ n2_ n3_; clear hb ho6))
  go_loopg [6] k (fun kq v6 w' => ∃ (x5_1 : List Int) (x6_1 : Int), v6 = .int .i64 x6_1 ∧ Aside0 (cubbyref21_Hear.l0 kq a0 t147 x5_1 x6_1 = some (r1, r2, r3, r4, r5, r6)) ∧ Aside0 (kq ≤ k) ∧ Aside0 (Kd.R Kd.string 9 w' w.heap.size (fun _ => True) v148 t147) ∧ Aside0 (Kd.R (Kd.int .i64) 3 w' w.heap.size (fun _ => True) v151 x5_1) ∧ Aside0 (w'.heap[gb146]? = some (.cells #[.int .i64 0, .int .i64 0, .int .i64 0, .int .i64 0, .string (⟨#[]⟩ : ByteArray)] 34 (0, 0))) ∧ Aside0 (Below w.heap.size w w'))
  case atStart => exact ⟨(y150), (1), (by first | rfl | (simp; done) | (simp [*]; done)), H', ⟨Nat.le_refl _⟩, ⟨by (with_reducible repeat (first | apply Kd.R_alloc | apply Kd.R_drewN | apply Kd.R_drew)); exact HO149.out⟩, ⟨by (with_reducible repeat (first | apply Kd.R_alloc | apply Kd.R_drewN | apply Kd.R_drew)); exact HO152.out⟩, ⟨by (with_reducible repeat (first | refine blk_drewN ?_ _ | refine blk_drew ?_ | refine blk_alloc ?_ _)); exact BK146.out⟩, ⟨by repeat (first | (with_reducible first | exact HB.out | apply below_alloc | apply pw_below_drewN | apply below_drew1 | refine below_set ?_ GE146.out) | exact HB.out)⟩⟩
  case round =>
    clear H'
    try clear c1
    try clear c2
    try clear p2
    obtain ⟨x5_1, x6_1, rfl, HA, HK1, HO_4, HO_5, BK146, HB⟩ := hrel
    cases gk with
    | zero => exact absurd HA.out (by simp [cubbyref21_Hear.l0])
    | succ k1 =>
      have H := HA.out
      clear HA
      simp only [cubbyref21_Hear.l0] at H
      have HC7 := Aside0.mk H
      clear H
      go_upto_region 4 with (fail)
      go_cut [23] (fun v23 wc => ∃ (kq : Nat) (x23_6 : Bool), v23 = .bool x23_6 ∧ Aside0 (cubbyref21_Hear.j1 kq a0 t147 x5_1 x6_1 x23_6 = some (r1, r2, r3, r4, r5, r6)) ∧ Aside0 (kq ≤ k1) ∧ Aside0 (Kd.R Kd.string 9 wc w.heap.size (fun _ => True) v148 t147) ∧ Aside0 (Kd.R (Kd.int .i64) 3 wc w.heap.size (fun _ => True) v151 x5_1) ∧ Aside0 (wc.heap[gb146]? = some (.cells #[.int .i64 0, .int .i64 0, .int .i64 0, .int .i64 0, .string (⟨#[]⟩ : ByteArray)] 34 (0, 0))) ∧ Aside0 (Below w.heap.size w wc))
      case first =>
        have H := HC7.out
        clear HC7
        by_cases c8 : x6_1 < (t147.length : Int)
        · rw [if_pos c8] at H
          have c8b0 : decide (x6_1 < (t147.length : Int)) = true := decide_eq_true c8
          clear c8
          (first | rw [c8b0] | (simp only [i64_w, i32_w]; rw [c8b0]) | skip)
          have H' := Aside0.mk H
          clear H
          obtain ⟨Ao9, co9, eo9⟩ := Kd.R_slice HO_4.out
          subst eo9
          go_wp2
          go_meet
          case rel => exact ⟨_, (decide (x6_1 < 4)), (by first | rfl | (simp; done) | (simp [*]; done)), H', ⟨by have := HK1.out; first | omega | exact Nat.le_refl _⟩, ⟨by (with_reducible repeat (first | apply Kd.R_alloc | apply Kd.R_drewN | apply Kd.R_drew)); exact HO_4.out⟩, ⟨by (with_reducible repeat (first | apply Kd.R_alloc | apply Kd.R_drewN | apply Kd.R_drew)); exact HO_5.out⟩, ⟨by (with_reducible repeat (first | refine blk_drewN ?_ _ | refine blk_drew ?_ | refine blk_alloc ?_ _)); exact BK146.out⟩, ⟨by repeat (first | (with_reducible first | exact HB.out | apply below_alloc | apply pw_below_drewN | apply below_drew1 | refine below_set ?_ GE146.out) | exact HB.out)⟩⟩
        · rw [if_neg c8] at H
          have c8b0 : decide (x6_1 < (t147.length : Int)) = false := decide_eq_false c8
          clear c8
          (first | rw [c8b0] | (simp only [i64_w, i32_w]; rw [c8b0]) | skip)
          have H' := Aside0.mk H
          clear H
          obtain ⟨Ao10, co10, eo10⟩ := Kd.R_slice HO_4.out
          subst eo10
          go_wp2
          go_meet
          case rel => exact ⟨_, (false), (by first | rfl | (simp; done) | (simp [*]; done)), H', ⟨by have := HK1.out; first | omega | exact Nat.le_refl _⟩, ⟨by (with_reducible repeat (first | apply Kd.R_alloc | apply Kd.R_drewN | apply Kd.R_drew)); exact HO_4.out⟩, ⟨by (with_reducible repeat (first | apply Kd.R_alloc | apply Kd.R_drewN | apply Kd.R_drew)); exact HO_5.out⟩, ⟨by (with_reducible repeat (first | refine blk_drewN ?_ _ | refine blk_drew ?_ | refine blk_alloc ?_ _)); exact BK146.out⟩, ⟨by repeat (first | (with_reducible first | exact HB.out | apply below_alloc | apply pw_below_drewN | apply below_drew1 | refine below_set ?_ GE146.out) | exact HB.out)⟩⟩
      case rest =>
        clear HC7
        try clear c1
        try clear c2
        try clear p2
        try clear c8
        try clear c8b0
        try clear c10
        try clear p2
        obtain ⟨kq, x23_6, rfl, HA, HJ6, HO_4, HO_5, BK146, HB⟩ := hcut
        cases kq with
        | zero => exact absurd HA.out (by simp [cubbyref21_Hear.j1])
        | succ kj6 =>
          have H := HA.out
          clear HA
          simp only [cubbyref21_Hear.j1] at H
          by_cases c11 : x23_6 = true
          · subst c11
            have H1 : (if 0 ≤ x6_1 then (if x6_1 < (t147.length : Int) then ((cubbyref08_Number.f kj6 (rdOf ByteArray.empty t147 x6_1)).bind fun bt154 => (if bt154.2 = true then (if 0 ≤ (wrap64 (x6_1 - 1)) then (if (wrap64 (x6_1 - 1)) < (x5_1.length : Int) then (cubbyref21_Hear.l0 kj6 a0 t147 (x5_1.set ((wrap64 (x6_1 - 1)) : Int).toNat bt154.1) (wrap64 (x6_1 + 1))) else (none)) else (none)) else (cubbyref21_Hear.l0 kj6 a0 t147 x5_1 (wrap64 (x6_1 + 1))))) else (none)) else (none)) = some (r1, r2, r3, r4, r5, r6) := by rw [if_pos rfl] at H; exact H
            clear H
            have H := H1
            clear H1
            by_cases c12 : 0 ≤ x6_1
            · rw [if_pos c12] at H
              have c12b0 : decide (0 ≤ x6_1) = true := decide_eq_true c12
              clear c12
              by_cases c13 : x6_1 < (t147.length : Int)
              · rw [if_pos c13] at H
                have c13b0 : decide (x6_1 < (t147.length : Int)) = true := decide_eq_true c13
                clear c13
                replace H := Option.bind_eq_some_iff.mp H
                obtain ⟨⟨t154, t155⟩, A140, H⟩ := H
                replace H : (if t155 = true then (if 0 ≤ (wrap64 (x6_1 - 1)) then (if (wrap64 (x6_1 - 1)) < (x5_1.length : Int) then (cubbyref21_Hear.l0 kj6 a0 t147 (x5_1.set ((wrap64 (x6_1 - 1)) : Int).toNat t154) (wrap64 (x6_1 + 1))) else (none)) else (none)) else (cubbyref21_Hear.l0 kj6 a0 t147 x5_1 (wrap64 (x6_1 + 1)))) = some (r1, r2, r3, r4, r5, r6) := H
                have A14 := Aside0.mk A140
                clear A140
                by_cases c15 : t155 = true
                · subst c15
                  have H1 : (if 0 ≤ (wrap64 (x6_1 - 1)) then (if (wrap64 (x6_1 - 1)) < (x5_1.length : Int) then (cubbyref21_Hear.l0 kj6 a0 t147 (x5_1.set ((wrap64 (x6_1 - 1)) : Int).toNat t154) (wrap64 (x6_1 + 1))) else (none)) else (none)) = some (r1, r2, r3, r4, r5, r6) := by rw [if_pos rfl] at H; exact H
                  clear H
                  have H := H1
                  clear H1
                  obtain ⟨ji16, hji16⟩ : ∃ j_ : Int, (wrap64 (x6_1 - 1)) = j_ := ⟨_, rfl⟩
                  replace H : (if 0 ≤ (ji16) then (if (ji16) < (x5_1.length : Int) then (cubbyref21_Hear.l0 kj6 a0 t147 (x5_1.set ((ji16) : Int).toNat t154) (wrap64 (x6_1 + 1))) else (none)) else (none)) = some (r1, r2, r3, r4, r5, r6) := by first | (rw [hji16] at H; exact H) | (simp only [hji16] at H ⊢; exact H)
                  (try rw [hji16] at A14)
                  have hji16w : (IntKind.i64.wrap (x6_1 - 1)) = ji16 := (i64_w _).trans hji16
                  by_cases c17 : 0 ≤ (ji16)
                  · rw [if_pos c17] at H
                    have c17b0 : decide (0 ≤ (ji16)) = true := decide_eq_true c17
                    clear c17
                    by_cases c18 : (ji16) < (x5_1.length : Int)
                    · rw [if_pos c18] at H
                      have c18b0 : decide ((ji16) < (x5_1.length : Int)) = true := decide_eq_true c18
                      clear c18
                      obtain ⟨y156, hy156⟩ : ∃ y_ : List Int, y_ = (x5_1.set ((ji16) : Int).toNat t154) := ⟨_, rfl⟩
                      replace H : (cubbyref21_Hear.l0 kj6 a0 t147 y156 (wrap64 (x6_1 + 1))) = some (r1, r2, r3, r4, r5, r6) := by first | (rw [hy156]; with_reducible exact H) | (have H2_ := (Option.bind_some _ _).symm.trans H; rw [hy156]; with_reducible exact H2_) | (have H2_ := (Option.bind_some _ _).symm.trans H; with_reducible exact H2_) | with_reducible exact H | (rw [hy156]; exact H) | exact H
                      have Ny156 := Aside0.mk hy156
                      clear hy156
                      have H' := Aside0.mk H
                      clear H
                      obtain ⟨Ao20, co20, eo20⟩ := Kd.R_slice HO_4.out
                      subst eo20
                      have p153 : 0 ≤ (x6_1 : Int) := of_decide_eq_true (by first | (with_reducible assumption) | assumption)
                      have q153 : x6_1 < (t147.length : Int) := of_decide_eq_true (by first | (with_reducible assumption) | assumption)
                      obtain ⟨ad153, e153, hx153_0⟩ := Kd.at_string (Kd.R_reads' HO_4.out).2.2 x6_1 p153 q153
                      cases e153
                      replace p153 := eq_true p153
                      replace q153 := eq_true q153
                      go_wp2_with (first | ((with_reducible refine gate_callee (f := 29) rfl ?_); refine goesL_ (some 31) rfl rfl Tryd.func29 (by kernel_rfl) rfl #[.string (rdOf ByteArray.empty t147 x6_1)] rfl (by (try simp only [List.map_toArray, List.map_cons, List.map_nil]); first | done | rfl | (simp only [List.length_drop, List.length_take]; rfl)) ?_; (with_reducible refine (cubbyref08_Number.calls kj6 (rdOf ByteArray.empty t147 x6_1) t154 true _ ?side1 A14.out).mono ?_); (case side1 => exact GW_below hGA.out (by repeat (first | (with_reducible first | exact HB.out | apply below_alloc | apply pw_below_drewN | apply below_drew1 | refine below_set ?_ GE146.out) | exact HB.out))); rintro e w' ⟨rfl, ⟨nd, rfl⟩⟩; refine ⟨_, rfl, ?_⟩; (try (rw [drewN_self wc]; generalize hq_ : World.drewN wc _ = wc; have n0_ : Aside0 (Kd.R Kd.string 9 wc w.heap.size (fun _ => True) (.slice (some ad153) t147.length co20) t147) := ⟨by rw [← hq_]; exact (by (with_reducible repeat (first | apply Kd.R_alloc | apply Kd.R_drewN | apply Kd.R_drew)); exact HO_4.out)⟩; have n1_ : Aside0 (Kd.R (Kd.int .i64) 3 wc w.heap.size (fun _ => True) v151 x5_1) := ⟨by rw [← hq_]; exact (by (with_reducible repeat (first | apply Kd.R_alloc | apply Kd.R_drewN | apply Kd.R_drew)); exact HO_5.out)⟩; have n2_ : Aside0 (wc.heap[gb146]? = some (.cells #[.int .i64 0, .int .i64 0, .int .i64 0, .int .i64 0, .string (⟨#[]⟩ : ByteArray)] 34 (0, 0))) := ⟨by rw [← hq_]; exact (by (with_reducible repeat (first | refine blk_drewN ?_ _ | refine blk_drew ?_ | refine blk_alloc ?_ _)); exact BK146.out)⟩; have n3_ : Aside0 (Below w.heap.size w wc) := ⟨by rw [← hq_]; exact (by repeat (first | (with_reducible first | exact HB.out | apply below_alloc | apply pw_below_drewN | apply below_drew1 | refine below_set ?_ GE146.out) | exact HB.out))⟩; clear HO_4 HO_5 BK146 HB hq_; have HO_4 := n0_; have HO_5 := n1_; have BK146 := n2_; have HB := n3_; clear n0_ n1_ n2_ n3_)); have p19 : 0 ≤ ((ji16) : Int) := of_decide_eq_true (by first | (with_reducible assumption) | assumption); have q19 : ((ji16) : Int) < ((x5_1.length : Int) : Int) := of_decide_eq_true (by first | (with_reducible assumption) | assumption); obtain ⟨go19, co19, eo19, gb19, gl19, cl19, HG19⟩ := Kd.R_form HO_5.out (by omega); (first | cases eo19 | (injection eo19 with ea_ en_ ec_; (first | subst ea_ | (injection ea_ with ea_; subst ea_)); subst ec_; clear en_)); have GB19 := Aside0.mk gb19; have GG19 := Aside0.mk HG19; clear gb19 gl19 HG19; obtain ⟨hx19_0, hf19_0⟩ := Kd.R_celln 0 HO_5.out ((ji16) : Int) p19 q19; replace p19 := eq_true p19; replace q19 := eq_true q19; obtain ⟨hy21_, hz21_⟩ := Kd.R_celln 0 HO_5.out ((ji16) : Int) (of_decide_eq_true (by first | (with_reducible assumption) | assumption)) (of_decide_eq_true (by first | (with_reducible assumption) | assumption)); have HP21 := Kd.R_putg HO_5.out ((ji16) : Int) t154) | ((with_reducible refine gate_store (t := 3) (p := 39) rfl ?_); refine store_event (t := 3) (p := 39) (v := ?vo_w22) (w1 := (wc.setCell ⟨go19, ((ji16) : Int).toNat, none⟩ (.int .i64 t154))) ?hg ?ho ?hn ?hr ?_; (case ho => rfl); (case hg => rfl); (case hn => rfl); (case hr => first | (go_simp; done) | (go_simp; rfl)); intro w22 hw; have hg : wc.grownBy w22 (some go19) := (by rw [hw]; exact HP21.2); have hp_ : Kd.R (Kd.int .i64) 3 w22 w.heap.size (fun _ => True) (.slice (some ⟨go19, 0, none⟩) x5_1.length co19) y156 := (by rw [hw, Ny156.out]; exact HP21.1); clear HP21; have n0_ := Aside0.mk (Kd.R_over' (v := (.slice (some ⟨go19, 0, none⟩) x5_1.length co19)) (by (with_reducible repeat (first | apply Kd.R_alloc | apply Kd.R_drewN | apply Kd.R_drew)); exact HO_4.out) (Kd.R_typed HO_5.out) (by decide) hg); have n1_ := Aside0.mk (hp_); have n2_ := Aside0.mk (blk_grown (g := gb146) (o := .cells #[.int .i64 0, .int .i64 0, .int .i64 0, .int .i64 0, .string (⟨#[]⟩ : ByteArray)] 34 (0, 0)) (by (with_reducible repeat (first | refine blk_drewN ?_ _ | refine blk_drew ?_ | refine blk_alloc ?_ _)); exact BK146.out) hg (Kd.R_ne HO_5.out BK146.out (by decide))); have n3_ := Aside0.mk ((by rw [hw]; exact below_set (HB.out) GB19.out : Below w.heap.size w w22)); clear HO_4; clear HO_5; clear BK146; clear HB; have HO_4 := n0_; have HO_5 := n1_; have BK146 := n2_; have HB := n3_; clear n0_ n1_ n2_ n3_; clear hg hw hp_))
                      go_roundg kj6
                      case measure => have := HK1.out; have := HJ6.out; omega
                      case rel => exact ⟨(y156), (wrap64 (x6_1 + 1)), (by first | rfl | (simp; done) | (simp [*]; done)), H', ⟨by have := HK1.out; have := HJ6.out; omega⟩, ⟨by (with_reducible repeat (first | apply Kd.R_alloc | apply Kd.R_drewN | apply Kd.R_drew)); exact HO_4.out⟩, ⟨by (with_reducible repeat (first | apply Kd.R_alloc | apply Kd.R_drewN | apply Kd.R_drew)); exact HO_5.out⟩, ⟨by (with_reducible repeat (first | refine blk_drewN ?_ _ | refine blk_drew ?_ | refine blk_alloc ?_ _)); exact BK146.out⟩, ⟨by repeat (first | (with_reducible first | exact HB.out | apply below_alloc | apply pw_below_drewN | apply below_drew1 | refine below_set ?_ GE146.out) | exact HB.out)⟩⟩
                    · rw [if_neg c18] at H
                      exact absurd H (by simp)
                  · rw [if_neg c17] at H
                    exact absurd H (by simp)
                · replace c15 := Bool.eq_false_iff.mpr c15
                  subst c15
                  have H1 : (cubbyref21_Hear.l0 kj6 a0 t147 x5_1 (wrap64 (x6_1 + 1))) = some (r1, r2, r3, r4, r5, r6) := by rw [if_neg (show ¬ (false = true) by decide)] at H; exact H
                  clear H
                  have H := H1
                  clear H1
                  have H' := Aside0.mk H
                  clear H
                  obtain ⟨Ao23, co23, eo23⟩ := Kd.R_slice HO_4.out
                  subst eo23
                  have p153 : 0 ≤ (x6_1 : Int) := of_decide_eq_true (by first | (with_reducible assumption) | assumption)
                  have q153 : x6_1 < (t147.length : Int) := of_decide_eq_true (by first | (with_reducible assumption) | assumption)
                  obtain ⟨ad153, e153, hx153_0⟩ := Kd.at_string (Kd.R_reads' HO_4.out).2.2 x6_1 p153 q153
                  cases e153
                  replace p153 := eq_true p153
                  replace q153 := eq_true q153
                  go_wp2_with (first | ((with_reducible refine gate_callee (f := 29) rfl ?_); refine goesL_ (some 31) rfl rfl Tryd.func29 (by kernel_rfl) rfl #[.string (rdOf ByteArray.empty t147 x6_1)] rfl (by (try simp only [List.map_toArray, List.map_cons, List.map_nil]); first | done | rfl | (simp only [List.length_drop, List.length_take]; rfl)) ?_; (with_reducible refine (cubbyref08_Number.calls kj6 (rdOf ByteArray.empty t147 x6_1) t154 false _ ?side1 A14.out).mono ?_); (case side1 => exact GW_below hGA.out (by repeat (first | (with_reducible first | exact HB.out | apply below_alloc | apply pw_below_drewN | apply below_drew1 | refine below_set ?_ GE146.out) | exact HB.out))); rintro e w' ⟨rfl, ⟨nd, rfl⟩⟩; refine ⟨_, rfl, ?_⟩))
                  go_roundg kj6
                  case measure => have := HK1.out; have := HJ6.out; omega
                  case rel => exact ⟨(x5_1), (wrap64 (x6_1 + 1)), (by first | rfl | (simp; done) | (simp [*]; done)), H', ⟨by have := HK1.out; have := HJ6.out; omega⟩, ⟨by (with_reducible repeat (first | apply Kd.R_alloc | apply Kd.R_drewN | apply Kd.R_drew)); exact HO_4.out⟩, ⟨by (with_reducible repeat (first | apply Kd.R_alloc | apply Kd.R_drewN | apply Kd.R_drew)); exact HO_5.out⟩, ⟨by (with_reducible repeat (first | refine blk_drewN ?_ _ | refine blk_drew ?_ | refine blk_alloc ?_ _)); exact BK146.out⟩, ⟨by repeat (first | (with_reducible first | exact HB.out | apply below_alloc | apply pw_below_drewN | apply below_drew1 | refine below_set ?_ GE146.out) | exact HB.out)⟩⟩
              · rw [if_neg c13] at H
                exact absurd H (by simp)
            · rw [if_neg c12] at H
              exact absurd H (by simp)
          · replace c11 := Bool.eq_false_iff.mpr c11
            subst c11
            have H1 : (cubbyref21_Hear.l1 kj6 a0 x5_1 1) = some (r1, r2, r3, r4, r5, r6) := by rw [if_neg (show ¬ (false = true) by decide)] at H; exact H
            clear H
            have H := H1
            clear H1
            have H' := Aside0.mk H
            clear H
            go_wp2
            go_loopg [9] kj6 (fun kq v9 w' => ∃ (x9_3 : Int) (x147000_3 : Int) (x147001_3 : Int) (x147002_3 : Int) (x147003_3 : Int) (x147004_3 : ByteArray), v9 = .int .i64 x9_3 ∧ Aside0 (cubbyref21_Hear.l1 kq a0 x5_1 x9_3 = some (r1, r2, r3, r4, r5, r6)) ∧ Aside0 (kq ≤ kj6) ∧ Aside0 (Kd.R (Kd.int .i64) 3 w' w.heap.size (fun _ => True) v151 x5_1) ∧ Aside0 (w'.heap[gb146]? = some (.cells #[.int .i64 x147000_3, .int .i64 x147001_3, .int .i64 x147002_3, .int .i64 x147003_3, .string x147004_3] 34 (0, 0))) ∧ Aside0 (Below w.heap.size w w'))
            case atStart => exact ⟨(1), (0), (0), (0), (0), ((⟨#[]⟩ : ByteArray)), (by first | rfl | (simp; done) | (simp [*]; done)), H', ⟨Nat.le_refl _⟩, ⟨by (with_reducible repeat (first | apply Kd.R_alloc | apply Kd.R_drewN | apply Kd.R_drew)); exact HO_5.out⟩, ⟨by (with_reducible repeat (first | refine blk_drewN ?_ _ | refine blk_drew ?_ | refine blk_alloc ?_ _)); exact BK146.out⟩, ⟨by repeat (first | (with_reducible first | exact HB.out | apply below_alloc | apply pw_below_drewN | apply below_drew1 | refine below_set ?_ GE146.out) | exact HB.out)⟩⟩
            case round =>
              clear H'
              try clear c1
              try clear p1
              try clear q1
              try clear hx1
              try clear hf1
              try clear c2
              try clear p2
              try clear p6
              try clear c8
              try clear c8b0
              try clear c10
              try clear c11
              try clear c12
              try clear c12b0
              try clear c13
              try clear c13b0
              try clear c15
              try clear p15
              try clear q15
              try clear hx15
              try clear c17
              try clear c17b0
              try clear c18
              try clear c18b0
              try clear p19
              try clear q19
              try clear hx19
              try clear hf19
              try clear hx153_0
              try clear hx19_0
              try clear p153
              try clear p19
              try clear p2
              try clear q153
              try clear q19
              obtain ⟨x9_3, x147000_3, x147001_3, x147002_3, x147003_3, x147004_3, rfl, HA, HK3, HO_5, BK146, HB⟩ := hrel
              cases gk with
              | zero => exact absurd HA.out (by simp [cubbyref21_Hear.l1])
              | succ k3 =>
                have H := HA.out
                clear HA
                simp only [cubbyref21_Hear.l1] at H
                by_cases c24 : x9_3 ≤ 5
                · rw [if_pos c24] at H
                  have c24b0 : decide (x9_3 ≤ 5) = true := decide_eq_true c24
                  clear c24
                  have HC25 := Aside0.mk H
                  clear H
                  go_upto_region 13 with (first | ((with_reducible refine gate_dst (N := 10) rfl ?_); (try (refine gate_guard (by rfl) ?_; dsimp only)); refine box_event ?hg (N := 10) ?hd (cs := #[.int .i64 0, .int .i64 0, .int .i64 0, .int .i64 0, .string (⟨#[]⟩ : ByteArray)]) (t := 34) ?hr ?_; (case hd => rfl); (case hg => rfl); (case hr => first | (go_simp; done) | (go_simp; rfl)); intro gb157 hg w26 hbox hb; have n0_ := Aside0.mk (Kd.R_below (by (with_reducible repeat (first | apply Kd.R_alloc | apply Kd.R_drewN | apply Kd.R_drew)); exact HO_5.out) hb); have n1_ := Aside0.mk (blk_below (g := gb146) (o := .cells #[.int .i64 x147000_3, .int .i64 x147001_3, .int .i64 x147002_3, .int .i64 x147003_3, .string x147004_3] 34 (0, 0)) (by (with_reducible repeat (first | refine blk_drewN ?_ _ | refine blk_drew ?_ | refine blk_alloc ?_ _)); exact BK146.out) hb); have n2_ := Aside0.mk (below_step (by repeat (first | (with_reducible first | exact HB.out | apply below_alloc | apply pw_below_drewN | apply below_drew1 | refine below_set ?_ GE146.out) | exact HB.out)) hb); have n3_ := Aside0.mk (hbox); have n4_ := Aside0.mk ((by rw [hg]; exact (below_size (by repeat (first | (with_reducible first | exact HB.out | apply below_alloc | apply pw_below_drewN | apply below_drew1 | refine below_set ?_ GE146.out) | exact HB.out))) : w.heap.size ≤ gb157)); have n5_ := Aside0.mk ((by rw [hg]; exact (below_size (by repeat (first | (with_reducible first | exact HB.out | apply below_alloc | apply pw_below_drewN | apply below_drew1 | refine below_set ?_ GE146.out) | exact HB.out))) : w.heap.size ≤ gb157)); have n6_ := Aside0.mk ((by rw [hg]; exact Nat.ne_of_lt (blk_lt (g := gb146) (o := .cells #[.int .i64 x147000_3, .int .i64 x147001_3, .int .i64 x147002_3, .int .i64 x147003_3, .string x147004_3] 34 (0, 0)) (by (with_reducible repeat (first | refine blk_drewN ?_ _ | refine blk_drew ?_ | refine blk_alloc ?_ _)); exact BK146.out)) : gb146 ≠ gb157)); have n7_ := Aside0.mk ((by rw [hg]; exact Nat.ne_of_gt (blk_lt (g := gb146) (o := .cells #[.int .i64 x147000_3, .int .i64 x147001_3, .int .i64 x147002_3, .int .i64 x147003_3, .string x147004_3] 34 (0, 0)) (by (with_reducible repeat (first | refine blk_drewN ?_ _ | refine blk_drew ?_ | refine blk_alloc ?_ _)); exact BK146.out)) : gb157 ≠ gb146)); clear HO_5; clear BK146; clear HB; have HO_5 := n0_; have BK146 := n1_; have HB := n2_; have BK157 := n3_; have GW157 := n4_; have GE157 := n5_; have NB146_157 := n6_; have NB157_146 := n7_; clear n0_ n1_ n2_ n3_ n4_ n5_ n6_ n7_; clear hb hbox hg; have hnb27 := NB157_146.out; have hnc27 := NB146_157.out; have hcz28_0 : w26.cell? ⟨gb157, 0, none⟩ = some (.int .i64 0) := (blk_cell BK157.out 0).trans rfl; have hcz28_1 : w26.cell? ⟨gb157, 1, none⟩ = some (.int .i64 0) := (blk_cell BK157.out 1).trans rfl; have hcz28_2 : w26.cell? ⟨gb157, 2, none⟩ = some (.int .i64 0) := (blk_cell BK157.out 2).trans rfl; have hcz28_3 : w26.cell? ⟨gb157, 3, none⟩ = some (.int .i64 0) := (blk_cell BK157.out 3).trans rfl; have hcz28_4 : w26.cell? ⟨gb157, 4, none⟩ = some (.string (⟨#[]⟩ : ByteArray)) := (blk_cell BK157.out 4).trans rfl; have hfz28_0 := blk_frozen BK157.out 0; have hfz28_1 := blk_frozen BK157.out 1; have hfz28_2 := blk_frozen BK157.out 2; have hfz28_3 := blk_frozen BK157.out 3; have hfz28_4 := blk_frozen BK157.out 4))
                  (try simp only [Act.put, List.setIfInBounds_toArray, List.set_cons_zero, List.set_cons_succ])
                  go_cut [52] (fun v52 wc => ∃ (kq : Nat) (x52_24 : Bool), v52 = .bool x52_24 ∧ Aside0 (cubbyref21_Hear.j3 kq a0 x5_1 x9_3 x52_24 x9_3 0 0 0 (⟨#[]⟩ : ByteArray) = some (r1, r2, r3, r4, r5, r6)) ∧ Aside0 (kq ≤ k3) ∧ Aside0 (Kd.R (Kd.int .i64) 3 wc w.heap.size (fun _ => True) v151 x5_1) ∧ Aside0 (wc.heap[gb146]? = some (.cells #[.int .i64 x147000_3, .int .i64 x147001_3, .int .i64 x147002_3, .int .i64 x147003_3, .string x147004_3] 34 (0, 0))) ∧ Aside0 (wc.heap[gb157]? = some (.cells #[.int .i64 x9_3, .int .i64 0, .int .i64 0, .int .i64 0, .string (⟨#[]⟩ : ByteArray)] 34 (0, 0))) ∧ Aside0 (Below w.heap.size w wc))
                  case first =>
                    have H := HC25.out
                    clear HC25
                    by_cases c29 : x9_3 = 2
                    · rw [if_pos c29] at H
                      have c29b0 : (x9_3 == 2) = true := beq_iff_eq.mpr c29
                      have c29b1 : (x9_3 != 2) = false := bne_eq_false_iff_eq.mpr c29
                      clear c29
                      (first | rw [c29b0] | (simp only [i64_w, i32_w]; rw [c29b0]) | skip)
                      have H' := Aside0.mk H
                      clear H
                      go_wp2
                      go_meet
                      case rel => exact ⟨_, (decide ((a0.size : Int) > 4)), (by first | rfl | (simp; done) | (simp [*]; done)), H', ⟨by have := HK1.out; have := HJ6.out; have := HK3.out; first | omega | exact Nat.le_refl _⟩, ⟨by (with_reducible repeat (first | apply Kd.R_alloc | apply Kd.R_drewN | apply Kd.R_drew)); exact Kd.R_mono (Kd.R_far (p := ⟨gb157, 4, none⟩) (Kd.R_far (p := ⟨gb157, 3, none⟩) (Kd.R_far (p := ⟨gb157, 2, none⟩) (Kd.R_far (p := ⟨gb157, 1, none⟩) (Kd.R_far (p := ⟨gb157, 0, none⟩) (Kd.R_types HO_5.out BK157.out (by decide)) (fun _ hk => hk.2) (.int .i64 x9_3)) (fun _ hk => hk.2) (.int .i64 0)) (fun _ hk => hk.2) (.int .i64 0)) (fun _ hk => hk.2) (.int .i64 0)) (fun _ hk => hk.2) (.string (⟨#[]⟩ : ByteArray))) (fun _ hk => trivial)⟩, ⟨by (with_reducible repeat (first | refine blk_drewN ?_ _ | refine blk_drew ?_ | refine blk_alloc ?_ _)); refine blk_far ?_ NB146_157.out _; (with_reducible repeat (first | refine blk_drewN ?_ _ | refine blk_drew ?_ | refine blk_alloc ?_ _)); refine blk_far ?_ NB146_157.out _; (with_reducible repeat (first | refine blk_drewN ?_ _ | refine blk_drew ?_ | refine blk_alloc ?_ _)); refine blk_far ?_ NB146_157.out _; (with_reducible repeat (first | refine blk_drewN ?_ _ | refine blk_drew ?_ | refine blk_alloc ?_ _)); refine blk_far ?_ NB146_157.out _; (with_reducible repeat (first | refine blk_drewN ?_ _ | refine blk_drew ?_ | refine blk_alloc ?_ _)); refine blk_far ?_ NB146_157.out _; (with_reducible repeat (first | refine blk_drewN ?_ _ | refine blk_drew ?_ | refine blk_alloc ?_ _)); exact BK146.out⟩, ⟨by (with_reducible repeat (first | refine blk_drewN ?_ _ | refine blk_drew ?_ | refine blk_alloc ?_ _)); refine blk_put (cs := #[.int .i64 x9_3, .int .i64 0, .int .i64 0, .int .i64 0, .string (⟨#[]⟩ : ByteArray)]) ?_ 4 _ rfl; (with_reducible repeat (first | refine blk_drewN ?_ _ | refine blk_drew ?_ | refine blk_alloc ?_ _)); refine blk_put (cs := #[.int .i64 x9_3, .int .i64 0, .int .i64 0, .int .i64 0, .string (⟨#[]⟩ : ByteArray)]) ?_ 3 _ rfl; (with_reducible repeat (first | refine blk_drewN ?_ _ | refine blk_drew ?_ | refine blk_alloc ?_ _)); refine blk_put (cs := #[.int .i64 x9_3, .int .i64 0, .int .i64 0, .int .i64 0, .string (⟨#[]⟩ : ByteArray)]) ?_ 2 _ rfl; (with_reducible repeat (first | refine blk_drewN ?_ _ | refine blk_drew ?_ | refine blk_alloc ?_ _)); refine blk_put (cs := #[.int .i64 x9_3, .int .i64 0, .int .i64 0, .int .i64 0, .string (⟨#[]⟩ : ByteArray)]) ?_ 1 _ rfl; (with_reducible repeat (first | refine blk_drewN ?_ _ | refine blk_drew ?_ | refine blk_alloc ?_ _)); refine blk_put (cs := #[.int .i64 0, .int .i64 0, .int .i64 0, .int .i64 0, .string (⟨#[]⟩ : ByteArray)]) ?_ 0 _ rfl; (with_reducible repeat (first | refine blk_drewN ?_ _ | refine blk_drew ?_ | refine blk_alloc ?_ _)); exact BK157.out⟩, ⟨by repeat (first | (with_reducible first | exact HB.out | apply below_alloc | apply pw_below_drewN | apply below_drew1 | refine below_set ?_ GE146.out | refine below_set ?_ GE157.out) | exact HB.out)⟩⟩
                    · rw [if_neg c29] at H
                      have c29b0 : (x9_3 == 2) = false := beq_eq_false_iff_ne.mpr c29
                      have c29b1 : (x9_3 != 2) = true := bne_iff_ne.mpr c29
                      (first | rw [c29b0] | (simp only [i64_w, i32_w]; rw [c29b0]) | skip)
                      have H' := Aside0.mk H
                      clear H
                      go_wp2
                      go_meet
                      case rel => exact ⟨_, (false), (by first | rfl | (simp; done) | (simp [*]; done)), H', ⟨by have := HK1.out; have := HJ6.out; have := HK3.out; first | omega | exact Nat.le_refl _⟩, ⟨by (with_reducible repeat (first | apply Kd.R_alloc | apply Kd.R_drewN | apply Kd.R_drew)); exact Kd.R_mono (Kd.R_far (p := ⟨gb157, 4, none⟩) (Kd.R_far (p := ⟨gb157, 3, none⟩) (Kd.R_far (p := ⟨gb157, 2, none⟩) (Kd.R_far (p := ⟨gb157, 1, none⟩) (Kd.R_far (p := ⟨gb157, 0, none⟩) (Kd.R_types HO_5.out BK157.out (by decide)) (fun _ hk => hk.2) (.int .i64 x9_3)) (fun _ hk => hk.2) (.int .i64 0)) (fun _ hk => hk.2) (.int .i64 0)) (fun _ hk => hk.2) (.int .i64 0)) (fun _ hk => hk.2) (.string (⟨#[]⟩ : ByteArray))) (fun _ hk => trivial)⟩, ⟨by (with_reducible repeat (first | refine blk_drewN ?_ _ | refine blk_drew ?_ | refine blk_alloc ?_ _)); refine blk_far ?_ NB146_157.out _; (with_reducible repeat (first | refine blk_drewN ?_ _ | refine blk_drew ?_ | refine blk_alloc ?_ _)); refine blk_far ?_ NB146_157.out _; (with_reducible repeat (first | refine blk_drewN ?_ _ | refine blk_drew ?_ | refine blk_alloc ?_ _)); refine blk_far ?_ NB146_157.out _; (with_reducible repeat (first | refine blk_drewN ?_ _ | refine blk_drew ?_ | refine blk_alloc ?_ _)); refine blk_far ?_ NB146_157.out _; (with_reducible repeat (first | refine blk_drewN ?_ _ | refine blk_drew ?_ | refine blk_alloc ?_ _)); refine blk_far ?_ NB146_157.out _; (with_reducible repeat (first | refine blk_drewN ?_ _ | refine blk_drew ?_ | refine blk_alloc ?_ _)); exact BK146.out⟩, ⟨by (with_reducible repeat (first | refine blk_drewN ?_ _ | refine blk_drew ?_ | refine blk_alloc ?_ _)); refine blk_put (cs := #[.int .i64 x9_3, .int .i64 0, .int .i64 0, .int .i64 0, .string (⟨#[]⟩ : ByteArray)]) ?_ 4 _ rfl; (with_reducible repeat (first | refine blk_drewN ?_ _ | refine blk_drew ?_ | refine blk_alloc ?_ _)); refine blk_put (cs := #[.int .i64 x9_3, .int .i64 0, .int .i64 0, .int .i64 0, .string (⟨#[]⟩ : ByteArray)]) ?_ 3 _ rfl; (with_reducible repeat (first | refine blk_drewN ?_ _ | refine blk_drew ?_ | refine blk_alloc ?_ _)); refine blk_put (cs := #[.int .i64 x9_3, .int .i64 0, .int .i64 0, .int .i64 0, .string (⟨#[]⟩ : ByteArray)]) ?_ 2 _ rfl; (with_reducible repeat (first | refine blk_drewN ?_ _ | refine blk_drew ?_ | refine blk_alloc ?_ _)); refine blk_put (cs := #[.int .i64 x9_3, .int .i64 0, .int .i64 0, .int .i64 0, .string (⟨#[]⟩ : ByteArray)]) ?_ 1 _ rfl; (with_reducible repeat (first | refine blk_drewN ?_ _ | refine blk_drew ?_ | refine blk_alloc ?_ _)); refine blk_put (cs := #[.int .i64 0, .int .i64 0, .int .i64 0, .int .i64 0, .string (⟨#[]⟩ : ByteArray)]) ?_ 0 _ rfl; (with_reducible repeat (first | refine blk_drewN ?_ _ | refine blk_drew ?_ | refine blk_alloc ?_ _)); exact BK157.out⟩, ⟨by repeat (first | (with_reducible first | exact HB.out | apply below_alloc | apply pw_below_drewN | apply below_drew1 | refine below_set ?_ GE146.out | refine below_set ?_ GE157.out) | exact HB.out)⟩⟩
                  case rest =>
                    clear HC25
                    try clear c1
                    try clear p1
                    try clear q1
                    try clear hx1
                    try clear hf1
                    try clear c2
                    try clear p2
                    try clear p6
                    try clear c8
                    try clear c8b0
                    try clear c10
                    try clear c11
                    try clear c12
                    try clear c12b0
                    try clear c13
                    try clear c13b0
                    try clear c15
                    try clear p15
                    try clear q15
                    try clear hx15
                    try clear c17
                    try clear c17b0
                    try clear c18
                    try clear c18b0
                    try clear p19
                    try clear q19
                    try clear hx19
                    try clear hf19
                    try clear c24
                    try clear c24b0
                    try clear c27
                    try clear c28
                    try clear c29
                    try clear c29b0
                    try clear c29b1
                    try clear hcz28_0
                    try clear hcz28_1
                    try clear hcz28_2
                    try clear hcz28_3
                    try clear hcz28_4
                    try clear hfz28_0
                    try clear hfz28_1
                    try clear hfz28_2
                    try clear hfz28_3
                    try clear hfz28_4
                    try clear hx153_0
                    try clear hx19_0
                    try clear p1
                    try clear p15
                    try clear p153
                    try clear p19
                    try clear p2
                    try clear p6
                    try clear q1
                    try clear q15
                    try clear q153
                    try clear q19
                    obtain ⟨kq, x52_24, rfl, HA, HJ24, HO_5, BK146, BK157, HB⟩ := hcut
                    cases kq with
                    | zero => exact absurd HA.out (by simp [cubbyref21_Hear.j3])
                    | succ kj24 =>
                      have H := HA.out
                      clear HA
                      simp only [cubbyref21_Hear.j3] at H
                      have HC30 := Aside0.mk H
                      clear H
                      go_upto_if 52 with (fail)
                      go_cut [] (fun wc => ∃ (kq : Nat) (x158004_29 : ByteArray), Aside0 (cubbyref21_Hear.j4 kq a0 x5_1 x9_3 x9_3 0 0 0 x158004_29 = some (r1, r2, r3, r4, r5, r6)) ∧ Aside0 (kq ≤ kj24) ∧ Aside0 (Kd.R (Kd.int .i64) 3 wc w.heap.size (fun _ => True) v151 x5_1) ∧ Aside0 (wc.heap[gb146]? = some (.cells #[.int .i64 x147000_3, .int .i64 x147001_3, .int .i64 x147002_3, .int .i64 x147003_3, .string x147004_3] 34 (0, 0))) ∧ Aside0 (wc.heap[gb157]? = some (.cells #[.int .i64 x9_3, .int .i64 0, .int .i64 0, .int .i64 0, .string x158004_29] 34 (0, 0))) ∧ Aside0 (Below w.heap.size w wc))
                      case first =>
                        have H := HC30.out
                        clear HC30
                        by_cases c31 : x52_24 = true
                        · subst c31
                          have H1 : (if 5 ≤ (a0.size : Int) then (cubbyref21_Hear.j4 kj24 a0 x5_1 x9_3 x9_3 0 0 0 (a0.extract 5 a0.size)) else (none)) = some (r1, r2, r3, r4, r5, r6) := by rw [if_pos rfl] at H; exact H
                          clear H
                          have H := H1
                          clear H1
                          by_cases c32 : 5 ≤ (a0.size : Int)
                          · rw [if_pos c32] at H
                            have c32b0 := eq_true c32
                            have c32b1 : decide (5 ≤ (a0.size : Int)) = true := decide_eq_true c32
                            clear c32
                            have H' := Aside0.mk H
                            clear H
                            have hnb33 := NB157_146.out
                            have hnc33 := NB146_157.out
                            have hcz34_0 : wc.cell? ⟨gb157, 0, none⟩ = some (.int .i64 x9_3) := (blk_cell BK157.out 0).trans rfl
                            have hcz34_1 : wc.cell? ⟨gb157, 1, none⟩ = some (.int .i64 0) := (blk_cell BK157.out 1).trans rfl
                            have hcz34_2 : wc.cell? ⟨gb157, 2, none⟩ = some (.int .i64 0) := (blk_cell BK157.out 2).trans rfl
                            have hcz34_3 : wc.cell? ⟨gb157, 3, none⟩ = some (.int .i64 0) := (blk_cell BK157.out 3).trans rfl
                            have hcz34_4 : wc.cell? ⟨gb157, 4, none⟩ = some (.string (⟨#[]⟩ : ByteArray)) := (blk_cell BK157.out 4).trans rfl
                            have hfz34_0 := blk_frozen BK157.out 0
                            have hfz34_1 := blk_frozen BK157.out 1
                            have hfz34_2 := blk_frozen BK157.out 2
                            have hfz34_3 := blk_frozen BK157.out 3
                            have hfz34_4 := blk_frozen BK157.out 4
                            go_wp2
                            go_meet
                            case rel => exact ⟨_, (a0.extract 5 a0.size), H', ⟨by have := HK1.out; have := HJ6.out; have := HK3.out; have := HJ24.out; first | omega | exact Nat.le_refl _⟩, ⟨by (with_reducible repeat (first | apply Kd.R_alloc | apply Kd.R_drewN | apply Kd.R_drew)); exact Kd.R_mono (Kd.R_far (p := ⟨gb157, 4, none⟩) (Kd.R_types HO_5.out BK157.out (by decide)) (fun _ hk => hk.2) (.string (a0.extract 5 a0.size))) (fun _ hk => trivial)⟩, ⟨by (with_reducible repeat (first | refine blk_drewN ?_ _ | refine blk_drew ?_ | refine blk_alloc ?_ _)); refine blk_far ?_ NB146_157.out _; (with_reducible repeat (first | refine blk_drewN ?_ _ | refine blk_drew ?_ | refine blk_alloc ?_ _)); exact BK146.out⟩, ⟨by (with_reducible repeat (first | refine blk_drewN ?_ _ | refine blk_drew ?_ | refine blk_alloc ?_ _)); refine blk_put (cs := #[.int .i64 x9_3, .int .i64 0, .int .i64 0, .int .i64 0, .string (⟨#[]⟩ : ByteArray)]) ?_ 4 _ rfl; (with_reducible repeat (first | refine blk_drewN ?_ _ | refine blk_drew ?_ | refine blk_alloc ?_ _)); exact BK157.out⟩, ⟨by repeat (first | (with_reducible first | exact HB.out | apply below_alloc | apply pw_below_drewN | apply below_drew1 | refine below_set ?_ GE146.out | refine below_set ?_ GE157.out) | exact HB.out)⟩⟩
                          · rw [if_neg c32] at H
                            exact absurd H (by simp)
                        · replace c31 := Bool.eq_false_iff.mpr c31
                          subst c31
                          have H1 : (cubbyref21_Hear.j4 kj24 a0 x5_1 x9_3 x9_3 0 0 0 (⟨#[]⟩ : ByteArray)) = some (r1, r2, r3, r4, r5, r6) := by rw [if_neg (show ¬ (false = true) by decide)] at H; exact H
                          clear H
                          have H := H1
                          clear H1
                          have H' := Aside0.mk H
                          clear H
                          go_wp2
                          go_meet
                          case rel => exact ⟨_, ((⟨#[]⟩ : ByteArray)), H', ⟨by have := HK1.out; have := HJ6.out; have := HK3.out; have := HJ24.out; first | omega | exact Nat.le_refl _⟩, ⟨by (with_reducible repeat (first | apply Kd.R_alloc | apply Kd.R_drewN | apply Kd.R_drew)); exact HO_5.out⟩, ⟨by (with_reducible repeat (first | refine blk_drewN ?_ _ | refine blk_drew ?_ | refine blk_alloc ?_ _)); exact BK146.out⟩, ⟨by (with_reducible repeat (first | refine blk_drewN ?_ _ | refine blk_drew ?_ | refine blk_alloc ?_ _)); exact BK157.out⟩, ⟨by repeat (first | (with_reducible first | exact HB.out | apply below_alloc | apply pw_below_drewN | apply below_drew1 | refine below_set ?_ GE146.out | refine below_set ?_ GE157.out) | exact HB.out)⟩⟩
                      case rest =>
                        clear HC30
                        try clear c1
                        try clear p1
                        try clear q1
                        try clear hx1
                        try clear hf1
                        try clear c2
                        try clear p2
                        try clear c3
                        try clear p6
                        try clear c8
                        try clear c8b0
                        try clear c10
                        try clear c11
                        try clear c12
                        try clear c12b0
                        try clear c13
                        try clear c13b0
                        try clear c15
                        try clear p15
                        try clear q15
                        try clear hx15
                        try clear c17
                        try clear c17b0
                        try clear c18
                        try clear c18b0
                        try clear p19
                        try clear q19
                        try clear hx19
                        try clear hf19
                        try clear c24
                        try clear c24b0
                        try clear c27
                        try clear c28
                        try clear c29
                        try clear c29b0
                        try clear c29b1
                        try clear c31
                        try clear c32
                        try clear c32b0
                        try clear c32b1
                        try clear c33
                        try clear hcz28_0
                        try clear hcz28_1
                        try clear hcz28_2
                        try clear hcz28_3
                        try clear hcz28_4
                        try clear hcz34_0
                        try clear hcz34_1
                        try clear hcz34_2
                        try clear hcz34_3
                        try clear hcz34_4
                        try clear hfz28_0
                        try clear hfz28_1
                        try clear hfz28_2
                        try clear hfz28_3
                        try clear hfz28_4
                        try clear hfz34_0
                        try clear hfz34_1
                        try clear hfz34_2
                        try clear hfz34_3
                        try clear hfz34_4
                        try clear hx153_0
                        try clear hx19_0
                        try clear p1
                        try clear p15
                        try clear p153
                        try clear p19
                        try clear p2
                        try clear p6
                        try clear q1
                        try clear q15
                        try clear q153
                        try clear q19
                        obtain ⟨kq, x158004_29, HA, HJ29, HO_5, BK146, BK157, HB⟩ := hcut
                        cases kq with
                        | zero => exact absurd HA.out (by simp [cubbyref21_Hear.j4])
                        | succ kj29 =>
                          have H := HA.out
                          clear HA
                          simp only [cubbyref21_Hear.j4] at H
                          have HC35 := Aside0.mk H
                          clear H
                          go_upto_region 15 with (fail)
                          go_cut [61] (fun v61 wc => ∃ (kq : Nat) (x61_34 : Bool), v61 = .bool x61_34 ∧ Aside0 (cubbyref21_Hear.j5 kq a0 x5_1 x9_3 x61_34 x9_3 0 0 0 x158004_29 = some (r1, r2, r3, r4, r5, r6)) ∧ Aside0 (kq ≤ kj29) ∧ Aside0 (Kd.R (Kd.int .i64) 3 wc w.heap.size (fun _ => True) v151 x5_1) ∧ Aside0 (wc.heap[gb146]? = some (.cells #[.int .i64 x147000_3, .int .i64 x147001_3, .int .i64 x147002_3, .int .i64 x147003_3, .string x147004_3] 34 (0, 0))) ∧ Aside0 (wc.heap[gb157]? = some (.cells #[.int .i64 x9_3, .int .i64 0, .int .i64 0, .int .i64 0, .string x158004_29] 34 (0, 0))) ∧ Aside0 (Below w.heap.size w wc))
                          case first =>
                            have H := HC35.out
                            clear HC35
                            by_cases c36 : x9_3 = 1
                            · rw [if_pos c36] at H
                              have c36b0 : (x9_3 == 1) = true := beq_iff_eq.mpr c36
                              have c36b1 : (x9_3 != 1) = false := bne_eq_false_iff_eq.mpr c36
                              clear c36
                              (first | rw [c36b0] | (simp only [i64_w, i32_w]; rw [c36b0]) | skip)
                              have H' := Aside0.mk H
                              clear H
                              go_wp2
                              go_meet
                              case rel => exact ⟨_, (true), (by first | rfl | (simp; done) | (simp [*]; done)), H', ⟨by have := HK1.out; have := HJ6.out; have := HK3.out; have := HJ24.out; have := HJ29.out; first | omega | exact Nat.le_refl _⟩, ⟨by (with_reducible repeat (first | apply Kd.R_alloc | apply Kd.R_drewN | apply Kd.R_drew)); exact HO_5.out⟩, ⟨by (with_reducible repeat (first | refine blk_drewN ?_ _ | refine blk_drew ?_ | refine blk_alloc ?_ _)); exact BK146.out⟩, ⟨by (with_reducible repeat (first | refine blk_drewN ?_ _ | refine blk_drew ?_ | refine blk_alloc ?_ _)); exact BK157.out⟩, ⟨by repeat (first | (with_reducible first | exact HB.out | apply below_alloc | apply pw_below_drewN | apply below_drew1 | refine below_set ?_ GE146.out | refine below_set ?_ GE157.out) | exact HB.out)⟩⟩
                            · rw [if_neg c36] at H
                              have c36b0 : (x9_3 == 1) = false := beq_eq_false_iff_ne.mpr c36
                              have c36b1 : (x9_3 != 1) = true := bne_iff_ne.mpr c36
                              (first | rw [c36b0] | (simp only [i64_w, i32_w]; rw [c36b0]) | skip)
                              have H' := Aside0.mk H
                              clear H
                              go_wp2
                              go_meet
                              case rel => exact ⟨_, (decide (x9_3 > 3)), (by first | rfl | (simp; done) | (simp [*]; done)), H', ⟨by have := HK1.out; have := HJ6.out; have := HK3.out; have := HJ24.out; have := HJ29.out; first | omega | exact Nat.le_refl _⟩, ⟨by (with_reducible repeat (first | apply Kd.R_alloc | apply Kd.R_drewN | apply Kd.R_drew)); exact HO_5.out⟩, ⟨by (with_reducible repeat (first | refine blk_drewN ?_ _ | refine blk_drew ?_ | refine blk_alloc ?_ _)); exact BK146.out⟩, ⟨by (with_reducible repeat (first | refine blk_drewN ?_ _ | refine blk_drew ?_ | refine blk_alloc ?_ _)); exact BK157.out⟩, ⟨by repeat (first | (with_reducible first | exact HB.out | apply below_alloc | apply pw_below_drewN | apply below_drew1 | refine below_set ?_ GE146.out | refine below_set ?_ GE157.out) | exact HB.out)⟩⟩
                          case rest =>
                            clear HC35
                            try clear c1
                            try clear p1
                            try clear q1
                            try clear hx1
                            try clear hf1
                            try clear c2
                            try clear p2
                            try clear c3
                            try clear p6
                            try clear c8
                            try clear c8b0
                            try clear c10
                            try clear c11
                            try clear c12
                            try clear c12b0
                            try clear c13
                            try clear c13b0
                            try clear c15
                            try clear p15
                            try clear q15
                            try clear hx15
                            try clear c17
                            try clear c17b0
                            try clear c18
                            try clear c18b0
                            try clear p19
                            try clear q19
                            try clear hx19
                            try clear hf19
                            try clear c24
                            try clear c24b0
                            try clear c27
                            try clear c28
                            try clear c29
                            try clear c29b0
                            try clear c29b1
                            try clear c31
                            try clear c32
                            try clear c32b0
                            try clear c32b1
                            try clear c33
                            try clear c36
                            try clear c36b0
                            try clear c36b1
                            try clear hcz28_0
                            try clear hcz28_1
                            try clear hcz28_2
                            try clear hcz28_3
                            try clear hcz28_4
                            try clear hcz34_0
                            try clear hcz34_1
                            try clear hcz34_2
                            try clear hcz34_3
                            try clear hcz34_4
                            try clear hfz28_0
                            try clear hfz28_1
                            try clear hfz28_2
                            try clear hfz28_3
                            try clear hfz28_4
                            try clear hfz34_0
                            try clear hfz34_1
                            try clear hfz34_2
                            try clear hfz34_3
                            try clear hfz34_4
                            try clear hx153_0
                            try clear hx19_0
                            try clear p1
                            try clear p15
                            try clear p153
                            try clear p19
                            try clear p2
                            try clear p6
                            try clear q1
                            try clear q15
                            try clear q153
                            try clear q19
                            obtain ⟨kq, x61_34, rfl, HA, HJ34, HO_5, BK146, BK157, HB⟩ := hcut
                            cases kq with
                            | zero => exact absurd HA.out (by simp [cubbyref21_Hear.j5])
                            | succ kj34 =>
                              have H := HA.out
                              clear HA
                              simp only [cubbyref21_Hear.j5] at H
                              have HC37 := Aside0.mk H
                              clear H
                              go_upto_if 61 with (fail)
                              go_cut [] (fun wc => ∃ (kq : Nat) (x158001_36 : Int), Aside0 (cubbyref21_Hear.j6 kq a0 x5_1 x9_3 x9_3 x158001_36 0 0 x158004_29 = some (r1, r2, r3, r4, r5, r6)) ∧ Aside0 (kq ≤ kj34) ∧ Aside0 (Kd.R (Kd.int .i64) 3 wc w.heap.size (fun _ => True) v151 x5_1) ∧ Aside0 (wc.heap[gb146]? = some (.cells #[.int .i64 x147000_3, .int .i64 x147001_3, .int .i64 x147002_3, .int .i64 x147003_3, .string x147004_3] 34 (0, 0))) ∧ Aside0 (wc.heap[gb157]? = some (.cells #[.int .i64 x9_3, .int .i64 x158001_36, .int .i64 0, .int .i64 0, .string x158004_29] 34 (0, 0))) ∧ Aside0 (Below w.heap.size w wc))
                              case first =>
                                have H := HC37.out
                                clear HC37
                                by_cases c38 : x61_34 = true
                                · subst c38
                                  have H1 : (if 0 < (x5_1.length : Int) then (cubbyref21_Hear.j6 kj34 a0 x5_1 x9_3 x9_3 (rd x5_1 0) 0 0 x158004_29) else (none)) = some (r1, r2, r3, r4, r5, r6) := by rw [if_pos rfl] at H; exact H
                                  clear H
                                  have H := H1
                                  clear H1
                                  by_cases c39 : 0 < (x5_1.length : Int)
                                  · rw [if_pos c39] at H
                                    have c39b0 : decide (0 < (x5_1.length : Int)) = true := decide_eq_true c39
                                    have c39b1 : decide (0 < x5_1.length) = true := decide_eq_true (by omega)
                                    clear c39
                                    (first | rw [c39b0] | (simp only [i64_w, i32_w]; rw [c39b0]) | skip)
                                    have H' := Aside0.mk H
                                    clear H
                                    obtain ⟨Ao40, co40, eo40⟩ := Kd.R_slice HO_5.out
                                    subst eo40
                                    have p158 : 0 ≤ (0 : Int) := (by omega)
                                    have q158 : 0 < (x5_1.length : Int) := of_decide_eq_true (by first | (with_reducible assumption) | assumption)
                                    obtain ⟨ad158, e158, hx158_0⟩ := Kd.at_int (Kd.R_reads' HO_5.out).2.2 0 p158 q158
                                    cases e158
                                    have qi158 : (0 < x5_1.length) = True := eq_true (by omega)
                                    (try rw [show ((0 : Int)).toNat = 0 from rfl] at hx158_0)
                                    (try rw [Addr.add_zero'] at hx158_0)
                                    replace p158 := eq_true p158
                                    replace q158 := eq_true q158
                                    have hnb41 := NB157_146.out
                                    have hnc41 := NB146_157.out
                                    have hcz42_0 : wc.cell? ⟨gb157, 0, none⟩ = some (.int .i64 x9_3) := (blk_cell BK157.out 0).trans rfl
                                    have hcz42_1 : wc.cell? ⟨gb157, 1, none⟩ = some (.int .i64 0) := (blk_cell BK157.out 1).trans rfl
                                    have hcz42_2 : wc.cell? ⟨gb157, 2, none⟩ = some (.int .i64 0) := (blk_cell BK157.out 2).trans rfl
                                    have hcz42_3 : wc.cell? ⟨gb157, 3, none⟩ = some (.int .i64 0) := (blk_cell BK157.out 3).trans rfl
                                    have hcz42_4 : wc.cell? ⟨gb157, 4, none⟩ = some (.string x158004_29) := (blk_cell BK157.out 4).trans rfl
                                    have hfz42_0 := blk_frozen BK157.out 0
                                    have hfz42_1 := blk_frozen BK157.out 1
                                    have hfz42_2 := blk_frozen BK157.out 2
                                    have hfz42_3 := blk_frozen BK157.out 3
                                    have hfz42_4 := blk_frozen BK157.out 4
                                    go_wp2
                                    go_meet
                                    case rel => exact ⟨_, (rd x5_1 0), H', ⟨by have := HK1.out; have := HJ6.out; have := HK3.out; have := HJ24.out; have := HJ29.out; have := HJ34.out; first | omega | exact Nat.le_refl _⟩, ⟨by (with_reducible repeat (first | apply Kd.R_alloc | apply Kd.R_drewN | apply Kd.R_drew)); exact Kd.R_mono (Kd.R_far (p := ⟨gb157, 1, none⟩) (Kd.R_types HO_5.out BK157.out (by decide)) (fun _ hk => hk.2) (.int .i64 (rd x5_1 0))) (fun _ hk => trivial)⟩, ⟨by (with_reducible repeat (first | refine blk_drewN ?_ _ | refine blk_drew ?_ | refine blk_alloc ?_ _)); refine blk_far ?_ NB146_157.out _; (with_reducible repeat (first | refine blk_drewN ?_ _ | refine blk_drew ?_ | refine blk_alloc ?_ _)); exact BK146.out⟩, ⟨by (with_reducible repeat (first | refine blk_drewN ?_ _ | refine blk_drew ?_ | refine blk_alloc ?_ _)); refine blk_put (cs := #[.int .i64 x9_3, .int .i64 0, .int .i64 0, .int .i64 0, .string x158004_29]) ?_ 1 _ rfl; (with_reducible repeat (first | refine blk_drewN ?_ _ | refine blk_drew ?_ | refine blk_alloc ?_ _)); exact BK157.out⟩, ⟨by repeat (first | (with_reducible first | exact HB.out | apply below_alloc | apply pw_below_drewN | apply below_drew1 | refine below_set ?_ GE146.out | refine below_set ?_ GE157.out) | exact HB.out)⟩⟩
                                  · rw [if_neg c39] at H
                                    exact absurd H (by simp)
                                · replace c38 := Bool.eq_false_iff.mpr c38
                                  subst c38
                                  have H1 : (cubbyref21_Hear.j6 kj34 a0 x5_1 x9_3 x9_3 0 0 0 x158004_29) = some (r1, r2, r3, r4, r5, r6) := by rw [if_neg (show ¬ (false = true) by decide)] at H; exact H
                                  clear H
                                  have H := H1
                                  clear H1
                                  have H' := Aside0.mk H
                                  clear H
                                  go_wp2
                                  go_meet
                                  case rel => exact ⟨_, (0), H', ⟨by have := HK1.out; have := HJ6.out; have := HK3.out; have := HJ24.out; have := HJ29.out; have := HJ34.out; first | omega | exact Nat.le_refl _⟩, ⟨by (with_reducible repeat (first | apply Kd.R_alloc | apply Kd.R_drewN | apply Kd.R_drew)); exact HO_5.out⟩, ⟨by (with_reducible repeat (first | refine blk_drewN ?_ _ | refine blk_drew ?_ | refine blk_alloc ?_ _)); exact BK146.out⟩, ⟨by (with_reducible repeat (first | refine blk_drewN ?_ _ | refine blk_drew ?_ | refine blk_alloc ?_ _)); exact BK157.out⟩, ⟨by repeat (first | (with_reducible first | exact HB.out | apply below_alloc | apply pw_below_drewN | apply below_drew1 | refine below_set ?_ GE146.out | refine below_set ?_ GE157.out) | exact HB.out)⟩⟩
                              case rest =>
                                clear HC37
                                try clear c1
                                try clear p1
                                try clear q1
                                try clear hx1
                                try clear qi1
                                try clear hf1
                                try clear c2
                                try clear p2
                                try clear c3
                                try clear c4
                                try clear p6
                                try clear c8
                                try clear c8b0
                                try clear c10
                                try clear c11
                                try clear c12
                                try clear c12b0
                                try clear c13
                                try clear c13b0
                                try clear c15
                                try clear p15
                                try clear q15
                                try clear hx15
                                try clear qi15
                                try clear c17
                                try clear c17b0
                                try clear c18
                                try clear c18b0
                                try clear p19
                                try clear q19
                                try clear hx19
                                try clear hf19
                                try clear c24
                                try clear c24b0
                                try clear c27
                                try clear c28
                                try clear c29
                                try clear c29b0
                                try clear c29b1
                                try clear c31
                                try clear c32
                                try clear c32b0
                                try clear c32b1
                                try clear c33
                                try clear c36
                                try clear c36b0
                                try clear c36b1
                                try clear c38
                                try clear c39
                                try clear c39b0
                                try clear c39b1
                                try clear c41
                                try clear hcz28_0
                                try clear hcz28_1
                                try clear hcz28_2
                                try clear hcz28_3
                                try clear hcz28_4
                                try clear hcz34_0
                                try clear hcz34_1
                                try clear hcz34_2
                                try clear hcz34_3
                                try clear hcz34_4
                                try clear hcz42_0
                                try clear hcz42_1
                                try clear hcz42_2
                                try clear hcz42_3
                                try clear hcz42_4
                                try clear hfz28_0
                                try clear hfz28_1
                                try clear hfz28_2
                                try clear hfz28_3
                                try clear hfz28_4
                                try clear hfz34_0
                                try clear hfz34_1
                                try clear hfz34_2
                                try clear hfz34_3
                                try clear hfz34_4
                                try clear hfz42_0
                                try clear hfz42_1
                                try clear hfz42_2
                                try clear hfz42_3
                                try clear hfz42_4
                                try clear hx153_0
                                try clear hx158_0
                                try clear hx19_0
                                try clear p1
                                try clear p15
                                try clear p153
                                try clear p158
                                try clear p19
                                try clear p2
                                try clear p6
                                try clear q1
                                try clear q15
                                try clear q153
                                try clear q158
                                try clear q19
                                obtain ⟨kq, x158001_36, HA, HJ36, HO_5, BK146, BK157, HB⟩ := hcut
                                cases kq with
                                | zero => exact absurd HA.out (by simp [cubbyref21_Hear.j6])
                                | succ kj36 =>
                                  have H := HA.out
                                  clear HA
                                  simp only [cubbyref21_Hear.j6] at H
                                  have HC43 := Aside0.mk H
                                  clear H
                                  go_upto_if 67 with (fail)
                                  go_cut [] (fun wc => ∃ (kq : Nat) (x158002_42 : Int), Aside0 (cubbyref21_Hear.j7 kq a0 x5_1 x9_3 x9_3 x158001_36 x158002_42 0 x158004_29 = some (r1, r2, r3, r4, r5, r6)) ∧ Aside0 (kq ≤ kj36) ∧ Aside0 (Kd.R (Kd.int .i64) 3 wc w.heap.size (fun _ => True) v151 x5_1) ∧ Aside0 (wc.heap[gb146]? = some (.cells #[.int .i64 x147000_3, .int .i64 x147001_3, .int .i64 x147002_3, .int .i64 x147003_3, .string x147004_3] 34 (0, 0))) ∧ Aside0 (wc.heap[gb157]? = some (.cells #[.int .i64 x9_3, .int .i64 x158001_36, .int .i64 x158002_42, .int .i64 0, .string x158004_29] 34 (0, 0))) ∧ Aside0 (Below w.heap.size w wc))
                                  case first =>
                                    have H := HC43.out
                                    clear HC43
                                    by_cases c44 : x9_3 > 3
                                    · rw [if_pos c44] at H
                                      have c44b0 : decide (3 < x9_3) = true := decide_eq_true c44
                                      clear c44
                                      (first | rw [c44b0] | (simp only [i64_w, i32_w]; rw [c44b0]) | skip)
                                      by_cases c45 : 1 < (x5_1.length : Int)
                                      · rw [if_pos c45] at H
                                        have c45b0 : decide (1 < (x5_1.length : Int)) = true := decide_eq_true c45
                                        have c45b1 : decide (1 < x5_1.length) = true := decide_eq_true (by omega)
                                        clear c45
                                        have H' := Aside0.mk H
                                        clear H
                                        obtain ⟨Ao46, co46, eo46⟩ := Kd.R_slice HO_5.out
                                        subst eo46
                                        have p159 : 0 ≤ (1 : Int) := (by omega)
                                        have q159 : 1 < (x5_1.length : Int) := of_decide_eq_true (by first | (with_reducible assumption) | assumption)
                                        obtain ⟨ad159, e159, hx159_0⟩ := Kd.at_int (Kd.R_reads' HO_5.out).2.2 1 p159 q159
                                        cases e159
                                        (try simp only [show (1 : Int).toNat = 1 from rfl, Nat.reduceMul, Nat.reduceEqDiff, Go.Addr.add, ↓reduceIte] at hx159_0)
                                        have qi159 : (1 < x5_1.length) = True := eq_true (by omega)
                                        (try rw [show ((1 : Int)).toNat = 1 from rfl] at hx159_0)
                                        replace p159 := eq_true p159
                                        replace q159 := eq_true q159
                                        have hnb47 := NB157_146.out
                                        have hnc47 := NB146_157.out
                                        have hcz48_0 : wc.cell? ⟨gb157, 0, none⟩ = some (.int .i64 x9_3) := (blk_cell BK157.out 0).trans rfl
                                        have hcz48_1 : wc.cell? ⟨gb157, 1, none⟩ = some (.int .i64 x158001_36) := (blk_cell BK157.out 1).trans rfl
                                        have hcz48_2 : wc.cell? ⟨gb157, 2, none⟩ = some (.int .i64 0) := (blk_cell BK157.out 2).trans rfl
                                        have hcz48_3 : wc.cell? ⟨gb157, 3, none⟩ = some (.int .i64 0) := (blk_cell BK157.out 3).trans rfl
                                        have hcz48_4 : wc.cell? ⟨gb157, 4, none⟩ = some (.string x158004_29) := (blk_cell BK157.out 4).trans rfl
                                        have hfz48_0 := blk_frozen BK157.out 0
                                        have hfz48_1 := blk_frozen BK157.out 1
                                        have hfz48_2 := blk_frozen BK157.out 2
                                        have hfz48_3 := blk_frozen BK157.out 3
                                        have hfz48_4 := blk_frozen BK157.out 4
                                        go_wp2
                                        go_meet
                                        case rel => exact ⟨_, (rd x5_1 1), H', ⟨by have := HK1.out; have := HJ6.out; have := HK3.out; have := HJ24.out; have := HJ29.out; have := HJ34.out; have := HJ36.out; first | omega | exact Nat.le_refl _⟩, ⟨by (with_reducible repeat (first | apply Kd.R_alloc | apply Kd.R_drewN | apply Kd.R_drew)); exact Kd.R_mono (Kd.R_far (p := ⟨gb157, 2, none⟩) (Kd.R_types HO_5.out BK157.out (by decide)) (fun _ hk => hk.2) (.int .i64 (rd x5_1 1))) (fun _ hk => trivial)⟩, ⟨by (with_reducible repeat (first | refine blk_drewN ?_ _ | refine blk_drew ?_ | refine blk_alloc ?_ _)); refine blk_far ?_ NB146_157.out _; (with_reducible repeat (first | refine blk_drewN ?_ _ | refine blk_drew ?_ | refine blk_alloc ?_ _)); exact BK146.out⟩, ⟨by (with_reducible repeat (first | refine blk_drewN ?_ _ | refine blk_drew ?_ | refine blk_alloc ?_ _)); refine blk_put (cs := #[.int .i64 x9_3, .int .i64 x158001_36, .int .i64 0, .int .i64 0, .string x158004_29]) ?_ 2 _ rfl; (with_reducible repeat (first | refine blk_drewN ?_ _ | refine blk_drew ?_ | refine blk_alloc ?_ _)); exact BK157.out⟩, ⟨by repeat (first | (with_reducible first | exact HB.out | apply below_alloc | apply pw_below_drewN | apply below_drew1 | refine below_set ?_ GE146.out | refine below_set ?_ GE157.out) | exact HB.out)⟩⟩
                                      · rw [if_neg c45] at H
                                        exact absurd H (by simp)
                                    · rw [if_neg c44] at H
                                      have c44b0 : decide (3 < x9_3) = false := decide_eq_false c44
                                      clear c44
                                      (first | rw [c44b0] | (simp only [i64_w, i32_w]; rw [c44b0]) | skip)
                                      have H' := Aside0.mk H
                                      clear H
                                      go_wp2
                                      go_meet
                                      case rel => exact ⟨_, (0), H', ⟨by have := HK1.out; have := HJ6.out; have := HK3.out; have := HJ24.out; have := HJ29.out; have := HJ34.out; have := HJ36.out; first | omega | exact Nat.le_refl _⟩, ⟨by (with_reducible repeat (first | apply Kd.R_alloc | apply Kd.R_drewN | apply Kd.R_drew)); exact HO_5.out⟩, ⟨by (with_reducible repeat (first | refine blk_drewN ?_ _ | refine blk_drew ?_ | refine blk_alloc ?_ _)); exact BK146.out⟩, ⟨by (with_reducible repeat (first | refine blk_drewN ?_ _ | refine blk_drew ?_ | refine blk_alloc ?_ _)); exact BK157.out⟩, ⟨by repeat (first | (with_reducible first | exact HB.out | apply below_alloc | apply pw_below_drewN | apply below_drew1 | refine below_set ?_ GE146.out | refine below_set ?_ GE157.out) | exact HB.out)⟩⟩
                                  case rest =>
                                    clear HC43
                                    try clear c1
                                    try clear p1
                                    try clear q1
                                    try clear hx1
                                    try clear qi1
                                    try clear hf1
                                    try clear c2
                                    try clear p2
                                    try clear c3
                                    try clear c4
                                    try clear p6
                                    try clear c8
                                    try clear c8b0
                                    try clear c10
                                    try clear c11
                                    try clear c12
                                    try clear c12b0
                                    try clear c13
                                    try clear c13b0
                                    try clear c15
                                    try clear p15
                                    try clear q15
                                    try clear hx15
                                    try clear qi15
                                    try clear c17
                                    try clear c17b0
                                    try clear c18
                                    try clear c18b0
                                    try clear p19
                                    try clear q19
                                    try clear hx19
                                    try clear hf19
                                    try clear c24
                                    try clear c24b0
                                    try clear c27
                                    try clear c28
                                    try clear c29
                                    try clear c29b0
                                    try clear c29b1
                                    try clear c31
                                    try clear c32
                                    try clear c32b0
                                    try clear c32b1
                                    try clear c33
                                    try clear c36
                                    try clear c36b0
                                    try clear c36b1
                                    try clear c38
                                    try clear c39
                                    try clear c39b0
                                    try clear c39b1
                                    try clear c41
                                    try clear c44
                                    try clear c44b0
                                    try clear c45
                                    try clear c45b0
                                    try clear c45b1
                                    try clear c47
                                    try clear hcz28_0
                                    try clear hcz28_1
                                    try clear hcz28_2
                                    try clear hcz28_3
                                    try clear hcz28_4
                                    try clear hcz34_0
                                    try clear hcz34_1
                                    try clear hcz34_2
                                    try clear hcz34_3
                                    try clear hcz34_4
                                    try clear hcz42_0
                                    try clear hcz42_1
                                    try clear hcz42_2
                                    try clear hcz42_3
                                    try clear hcz42_4
                                    try clear hcz48_0
                                    try clear hcz48_1
                                    try clear hcz48_2
                                    try clear hcz48_3
                                    try clear hcz48_4
                                    try clear hfz28_0
                                    try clear hfz28_1
                                    try clear hfz28_2
                                    try clear hfz28_3
                                    try clear hfz28_4
                                    try clear hfz34_0
                                    try clear hfz34_1
                                    try clear hfz34_2
                                    try clear hfz34_3
                                    try clear hfz34_4
                                    try clear hfz42_0
                                    try clear hfz42_1
                                    try clear hfz42_2
                                    try clear hfz42_3
                                    try clear hfz42_4
                                    try clear hfz48_0
                                    try clear hfz48_1
                                    try clear hfz48_2
                                    try clear hfz48_3
                                    try clear hfz48_4
                                    try clear hx153_0
                                    try clear hx158_0
                                    try clear hx159_0
                                    try clear hx19_0
                                    try clear p1
                                    try clear p15
                                    try clear p153
                                    try clear p158
                                    try clear p159
                                    try clear p19
                                    try clear p2
                                    try clear p6
                                    try clear q1
                                    try clear q15
                                    try clear q153
                                    try clear q158
                                    try clear q159
                                    try clear q19
                                    obtain ⟨kq, x158002_42, HA, HJ42, HO_5, BK146, BK157, HB⟩ := hcut
                                    cases kq with
                                    | zero => exact absurd HA.out (by simp [cubbyref21_Hear.j7])
                                    | succ kj42 =>
                                      have H := HA.out
                                      clear HA
                                      simp only [cubbyref21_Hear.j7] at H
                                      by_cases c49 : x9_3 = 5
                                      · rw [if_pos c49] at H
                                        have c49b0 : (x9_3 == 5) = true := beq_iff_eq.mpr c49
                                        have c49b1 : (x9_3 != 5) = false := bne_eq_false_iff_eq.mpr c49
                                        clear c49
                                        by_cases c50 : 2 < (x5_1.length : Int)
                                        · rw [if_pos c50] at H
                                          have c50b0 : decide (2 < (x5_1.length : Int)) = true := decide_eq_true c50
                                          have c50b1 : decide (2 < x5_1.length) = true := decide_eq_true (by omega)
                                          clear c50
                                          replace H := Option.bind_eq_some_iff.mp H
                                          obtain ⟨⟨t161, t162⟩, A510, H⟩ := H
                                          replace H : (if t162 = 0 then (if t161.toList = a0.toList then (some (x9_3, x158001_36, x158002_42, rd x5_1 2, x158004_29, 0)) else (cubbyref21_Hear.l1 kj42 a0 x5_1 (wrap64 (x9_3 + 1)))) else (cubbyref21_Hear.l1 kj42 a0 x5_1 (wrap64 (x9_3 + 1)))) = some (r1, r2, r3, r4, r5, r6) := H
                                          have A51 := Aside0.mk A510
                                          clear A510
                                          by_cases c52 : t162 = 0
                                          · rw [if_pos c52] at H
                                            have c52b0 : (t162 == 0) = true := beq_iff_eq.mpr c52
                                            have c52b1 : (t162 != 0) = false := bne_eq_false_iff_eq.mpr c52
                                            clear c52
                                            by_cases c53 : t161.toList = a0.toList
                                            · rw [if_pos c53] at H
                                              have c53b0 : (t161.toList == a0.toList) = true := beq_iff_eq.mpr c53
                                              have c53b1 : (t161.toList != a0.toList) = false := bne_eq_false_iff_eq.mpr c53
                                              clear c53
                                              simp only [Option.some.injEq, Prod.mk.injEq] at H
                                              obtain ⟨rfl, rfl, rfl, rfl, rfl, rfl⟩ := H
                                              obtain ⟨Ao54, co54, eo54⟩ := Kd.R_slice HO_5.out
                                              subst eo54
                                              have p160 : 0 ≤ (2 : Int) := (by omega)
                                              have q160 : 2 < (x5_1.length : Int) := of_decide_eq_true (by first | (with_reducible assumption) | assumption)
                                              obtain ⟨ad160, e160, hx160_0⟩ := Kd.at_int (Kd.R_reads' HO_5.out).2.2 2 p160 q160
                                              cases e160
                                              (try simp only [show (2 : Int).toNat = 2 from rfl, Nat.reduceMul, Nat.reduceEqDiff, Go.Addr.add, ↓reduceIte] at hx160_0)
                                              have qi160 : (2 < x5_1.length) = True := eq_true (by omega)
                                              (try rw [show ((2 : Int)).toNat = 2 from rfl] at hx160_0)
                                              replace p160 := eq_true p160
                                              replace q160 := eq_true q160
                                              have hnb55 := NB157_146.out
                                              have hnc55 := NB146_157.out
                                              have hcz56_0 : wc.cell? ⟨gb157, 0, none⟩ = some (.int .i64 x9_3) := (blk_cell BK157.out 0).trans rfl
                                              have hcz56_1 : wc.cell? ⟨gb157, 1, none⟩ = some (.int .i64 x158001_36) := (blk_cell BK157.out 1).trans rfl
                                              have hcz56_2 : wc.cell? ⟨gb157, 2, none⟩ = some (.int .i64 x158002_42) := (blk_cell BK157.out 2).trans rfl
                                              have hcz56_3 : wc.cell? ⟨gb157, 3, none⟩ = some (.int .i64 0) := (blk_cell BK157.out 3).trans rfl
                                              have hcz56_4 : wc.cell? ⟨gb157, 4, none⟩ = some (.string x158004_29) := (blk_cell BK157.out 4).trans rfl
                                              have hfz56_0 := blk_frozen BK157.out 0
                                              have hfz56_1 := blk_frozen BK157.out 1
                                              have hfz56_2 := blk_frozen BK157.out 2
                                              have hfz56_3 := blk_frozen BK157.out 3
                                              have hfz56_4 := blk_frozen BK157.out 4
                                              go_wp2_with (first | ((with_reducible refine gate_callee (f := 30) rfl ?_); refine goesL_ (some 80) rfl rfl Tryd.func30 (by kernel_rfl) rfl #[.agg #[.int .i64 x9_3, .int .i64 x158001_36, .int .i64 x158002_42, .int .i64 (rd x5_1 2), .string x158004_29]] rfl (by (try simp only [List.map_toArray, List.map_cons, List.map_nil]); first | done | rfl | (simp only [List.length_drop, List.length_take]; rfl)) ?_; (with_reducible refine (cubbyref21_Tell.calls kj42 x9_3 x158001_36 x158002_42 (rd x5_1 2) x158004_29 t161 t162 _ ?side1 A51.out).mono ?_); (case side1 => exact GW_below hGA.out (by repeat (first | (with_reducible first | exact HB.out | apply below_alloc | apply pw_below_drewN | apply below_drew1 | refine below_set ?_ GE146.out | refine below_set ?_ GE157.out) | exact HB.out))); rintro e w57 ⟨rfl, hb⟩; refine ⟨_, rfl, ?_⟩; have n0_ := Aside0.mk (Kd.R_below (by (with_reducible repeat (first | apply Kd.R_alloc | apply Kd.R_drewN | apply Kd.R_drew)); exact (Kd.R_mono (Kd.R_far (p := ⟨gb157, 3, none⟩) (Kd.R_types HO_5.out BK157.out (by decide)) (fun _ hk => hk.2) (.int .i64 (rd x5_1 2))) (fun _ h_ => h_.1))) hb); have n1_ := Aside0.mk (blk_below (g := gb146) (o := .cells #[.int .i64 x147000_3, .int .i64 x147001_3, .int .i64 x147002_3, .int .i64 x147003_3, .string x147004_3] 34 (0, 0)) (by (with_reducible repeat (first | refine blk_drewN ?_ _ | refine blk_drew ?_ | refine blk_alloc ?_ _)); refine blk_far ?_ NB146_157.out _; (with_reducible repeat (first | refine blk_drewN ?_ _ | refine blk_drew ?_ | refine blk_alloc ?_ _)); exact BK146.out) hb); have n2_ := Aside0.mk (blk_below (g := gb157) (o := .cells #[.int .i64 x9_3, .int .i64 x158001_36, .int .i64 x158002_42, .int .i64 (rd x5_1 2), .string x158004_29] 34 (0, 0)) (by (with_reducible repeat (first | refine blk_drewN ?_ _ | refine blk_drew ?_ | refine blk_alloc ?_ _)); refine blk_put (cs := #[.int .i64 x9_3, .int .i64 x158001_36, .int .i64 x158002_42, .int .i64 0, .string x158004_29]) ?_ 3 _ rfl; (with_reducible repeat (first | refine blk_drewN ?_ _ | refine blk_drew ?_ | refine blk_alloc ?_ _)); exact BK157.out) hb); have n3_ := Aside0.mk (below_step (by repeat (first | (with_reducible first | exact HB.out | apply below_alloc | apply pw_below_drewN | apply below_drew1 | refine below_set ?_ GE146.out | refine below_set ?_ GE157.out) | exact HB.out)) hb); clear HO_5; clear BK146; clear BK157; clear HB; have HO_5 := n0_; have BK146 := n1_; have BK157 := n2_; have HB := n3_; clear n0_ n1_ n2_ n3_; (try clear hb); (try clear hb2); (try clear hk); (try clear hi); have hcz58_0 : w57.cell? ⟨gb157, 0, none⟩ = some (.int .i64 x9_3) := (blk_cell BK157.out 0).trans rfl; have hcz58_1 : w57.cell? ⟨gb157, 1, none⟩ = some (.int .i64 x158001_36) := (blk_cell BK157.out 1).trans rfl; have hcz58_2 : w57.cell? ⟨gb157, 2, none⟩ = some (.int .i64 x158002_42) := (blk_cell BK157.out 2).trans rfl; have hcz58_3 : w57.cell? ⟨gb157, 3, none⟩ = some (.int .i64 (rd x5_1 2)) := (blk_cell BK157.out 3).trans rfl; have hcz58_4 : w57.cell? ⟨gb157, 4, none⟩ = some (.string x158004_29) := (blk_cell BK157.out 4).trans rfl; have hfz58_0 := blk_frozen BK157.out 0; have hfz58_1 := blk_frozen BK157.out 1; have hfz58_2 := blk_frozen BK157.out 2; have hfz58_3 := blk_frozen BK157.out 3; have hfz58_4 := blk_frozen BK157.out 4; have hcz59_0 : w57.cell? ⟨gb146, 0, none⟩ = some (.int .i64 x147000_3) := (blk_cell BK146.out 0).trans rfl; have hcz59_1 : w57.cell? ⟨gb146, 1, none⟩ = some (.int .i64 x147001_3) := (blk_cell BK146.out 1).trans rfl; have hcz59_2 : w57.cell? ⟨gb146, 2, none⟩ = some (.int .i64 x147002_3) := (blk_cell BK146.out 2).trans rfl; have hcz59_3 : w57.cell? ⟨gb146, 3, none⟩ = some (.int .i64 x147003_3) := (blk_cell BK146.out 3).trans rfl; have hcz59_4 : w57.cell? ⟨gb146, 4, none⟩ = some (.string x147004_3) := (blk_cell BK146.out 4).trans rfl; have hfz59_0 := blk_frozen BK146.out 0; have hfz59_1 := blk_frozen BK146.out 1; have hfz59_2 := blk_frozen BK146.out 2; have hfz59_3 := blk_frozen BK146.out 3; have hfz59_4 := blk_frozen BK146.out 4))
                                              refine bodyPost_ret (results_ct rfl _ _ gb146 34 #[.int .i64 x9_3, .int .i64 x158001_36, .int .i64 x158002_42, .int .i64 (rd x5_1 2), .string x158004_29] (0, 0) _ rfl (by (with_reducible repeat (first | refine blk_drewN ?_ _ | refine blk_drew ?_ | refine blk_alloc ?_ _)); refine blk_put (cs := #[.int .i64 x9_3, .int .i64 x158001_36, .int .i64 x158002_42, .int .i64 (rd x5_1 2), .string x147004_3]) ?_ 4 _ rfl; (with_reducible repeat (first | refine blk_drewN ?_ _ | refine blk_drew ?_ | refine blk_alloc ?_ _)); refine blk_put (cs := #[.int .i64 x9_3, .int .i64 x158001_36, .int .i64 x158002_42, .int .i64 x147003_3, .string x147004_3]) ?_ 3 _ rfl; (with_reducible repeat (first | refine blk_drewN ?_ _ | refine blk_drew ?_ | refine blk_alloc ?_ _)); refine blk_put (cs := #[.int .i64 x9_3, .int .i64 x158001_36, .int .i64 x147002_3, .int .i64 x147003_3, .string x147004_3]) ?_ 2 _ rfl; (with_reducible repeat (first | refine blk_drewN ?_ _ | refine blk_drew ?_ | refine blk_alloc ?_ _)); refine blk_put (cs := #[.int .i64 x9_3, .int .i64 x147001_3, .int .i64 x147002_3, .int .i64 x147003_3, .string x147004_3]) ?_ 1 _ rfl; (with_reducible repeat (first | refine blk_drewN ?_ _ | refine blk_drew ?_ | refine blk_alloc ?_ _)); refine blk_put (cs := #[.int .i64 x147000_3, .int .i64 x147001_3, .int .i64 x147002_3, .int .i64 x147003_3, .string x147004_3]) ?_ 0 _ rfl; (with_reducible repeat (first | refine blk_drewN ?_ _ | refine blk_drew ?_ | refine blk_alloc ?_ _)); exact BK146.out) Tryd.underlying34 rfl (by kernel_rfl)) rfl ?_
                                              exact ⟨by first | rfl | (simp [errW_none, errW_some] <;> rfl) | (simp [*, errW_none, errW_some] <;> rfl), by repeat (first | (with_reducible first | exact HB.out | apply below_alloc | apply pw_below_drewN | apply below_drew1 | refine below_set ?_ GE146.out | refine below_set ?_ GE157.out) | exact HB.out)⟩
                                            · rw [if_neg c53] at H
                                              have c53b0 : (t161.toList == a0.toList) = false := beq_eq_false_iff_ne.mpr c53
                                              have c53b1 : (t161.toList != a0.toList) = true := bne_iff_ne.mpr c53
                                              have H' := Aside0.mk H
                                              clear H
                                              obtain ⟨Ao60, co60, eo60⟩ := Kd.R_slice HO_5.out
                                              subst eo60
                                              have p160 : 0 ≤ (2 : Int) := (by omega)
                                              have q160 : 2 < (x5_1.length : Int) := of_decide_eq_true (by first | (with_reducible assumption) | assumption)
                                              obtain ⟨ad160, e160, hx160_0⟩ := Kd.at_int (Kd.R_reads' HO_5.out).2.2 2 p160 q160
                                              cases e160
                                              (try simp only [show (2 : Int).toNat = 2 from rfl, Nat.reduceMul, Nat.reduceEqDiff, Go.Addr.add, ↓reduceIte] at hx160_0)
                                              have qi160 : (2 < x5_1.length) = True := eq_true (by omega)
                                              (try rw [show ((2 : Int)).toNat = 2 from rfl] at hx160_0)
                                              replace p160 := eq_true p160
                                              replace q160 := eq_true q160
                                              have hnb61 := NB157_146.out
                                              have hnc61 := NB146_157.out
                                              have hcz62_0 : wc.cell? ⟨gb157, 0, none⟩ = some (.int .i64 x9_3) := (blk_cell BK157.out 0).trans rfl
                                              have hcz62_1 : wc.cell? ⟨gb157, 1, none⟩ = some (.int .i64 x158001_36) := (blk_cell BK157.out 1).trans rfl
                                              have hcz62_2 : wc.cell? ⟨gb157, 2, none⟩ = some (.int .i64 x158002_42) := (blk_cell BK157.out 2).trans rfl
                                              have hcz62_3 : wc.cell? ⟨gb157, 3, none⟩ = some (.int .i64 0) := (blk_cell BK157.out 3).trans rfl
                                              have hcz62_4 : wc.cell? ⟨gb157, 4, none⟩ = some (.string x158004_29) := (blk_cell BK157.out 4).trans rfl
                                              have hfz62_0 := blk_frozen BK157.out 0
                                              have hfz62_1 := blk_frozen BK157.out 1
                                              have hfz62_2 := blk_frozen BK157.out 2
                                              have hfz62_3 := blk_frozen BK157.out 3
                                              have hfz62_4 := blk_frozen BK157.out 4
                                              go_wp2_with (first | ((with_reducible refine gate_callee (f := 30) rfl ?_); refine goesL_ (some 80) rfl rfl Tryd.func30 (by kernel_rfl) rfl #[.agg #[.int .i64 x9_3, .int .i64 x158001_36, .int .i64 x158002_42, .int .i64 (rd x5_1 2), .string x158004_29]] rfl (by (try simp only [List.map_toArray, List.map_cons, List.map_nil]); first | done | rfl | (simp only [List.length_drop, List.length_take]; rfl)) ?_; (with_reducible refine (cubbyref21_Tell.calls kj42 x9_3 x158001_36 x158002_42 (rd x5_1 2) x158004_29 t161 t162 _ ?side1 A51.out).mono ?_); (case side1 => exact GW_below hGA.out (by repeat (first | (with_reducible first | exact HB.out | apply below_alloc | apply pw_below_drewN | apply below_drew1 | refine below_set ?_ GE146.out | refine below_set ?_ GE157.out) | exact HB.out))); rintro e w63 ⟨rfl, hb⟩; refine ⟨_, rfl, ?_⟩; have n0_ := Aside0.mk (Kd.R_below (by (with_reducible repeat (first | apply Kd.R_alloc | apply Kd.R_drewN | apply Kd.R_drew)); exact (Kd.R_mono (Kd.R_far (p := ⟨gb157, 3, none⟩) (Kd.R_types HO_5.out BK157.out (by decide)) (fun _ hk => hk.2) (.int .i64 (rd x5_1 2))) (fun _ h_ => h_.1))) hb); have n1_ := Aside0.mk (blk_below (g := gb146) (o := .cells #[.int .i64 x147000_3, .int .i64 x147001_3, .int .i64 x147002_3, .int .i64 x147003_3, .string x147004_3] 34 (0, 0)) (by (with_reducible repeat (first | refine blk_drewN ?_ _ | refine blk_drew ?_ | refine blk_alloc ?_ _)); refine blk_far ?_ NB146_157.out _; (with_reducible repeat (first | refine blk_drewN ?_ _ | refine blk_drew ?_ | refine blk_alloc ?_ _)); exact BK146.out) hb); have n2_ := Aside0.mk (blk_below (g := gb157) (o := .cells #[.int .i64 x9_3, .int .i64 x158001_36, .int .i64 x158002_42, .int .i64 (rd x5_1 2), .string x158004_29] 34 (0, 0)) (by (with_reducible repeat (first | refine blk_drewN ?_ _ | refine blk_drew ?_ | refine blk_alloc ?_ _)); refine blk_put (cs := #[.int .i64 x9_3, .int .i64 x158001_36, .int .i64 x158002_42, .int .i64 0, .string x158004_29]) ?_ 3 _ rfl; (with_reducible repeat (first | refine blk_drewN ?_ _ | refine blk_drew ?_ | refine blk_alloc ?_ _)); exact BK157.out) hb); have n3_ := Aside0.mk (below_step (by repeat (first | (with_reducible first | exact HB.out | apply below_alloc | apply pw_below_drewN | apply below_drew1 | refine below_set ?_ GE146.out | refine below_set ?_ GE157.out) | exact HB.out)) hb); clear HO_5; clear BK146; clear BK157; clear HB; have HO_5 := n0_; have BK146 := n1_; have BK157 := n2_; have HB := n3_; clear n0_ n1_ n2_ n3_; (try clear hb); (try clear hb2); (try clear hk); (try clear hi)))
                                              go_roundg kj42
                                              case measure => have := HK1.out; have := HJ6.out; have := HK3.out; have := HJ24.out; have := HJ29.out; have := HJ34.out; have := HJ36.out; have := HJ42.out; omega
                                              case rel => exact ⟨(wrap64 (x9_3 + 1)), (x147000_3), (x147001_3), (x147002_3), (x147003_3), (x147004_3), (by first | rfl | (simp; done) | (simp [*]; done)), H', ⟨by have := HK1.out; have := HJ6.out; have := HK3.out; have := HJ24.out; have := HJ29.out; have := HJ34.out; have := HJ36.out; have := HJ42.out; omega⟩, ⟨by (with_reducible repeat (first | apply Kd.R_alloc | apply Kd.R_drewN | apply Kd.R_drew)); exact HO_5.out⟩, ⟨by (with_reducible repeat (first | refine blk_drewN ?_ _ | refine blk_drew ?_ | refine blk_alloc ?_ _)); exact BK146.out⟩, ⟨by repeat (first | (with_reducible first | exact HB.out | apply below_alloc | apply pw_below_drewN | apply below_drew1 | refine below_set ?_ GE146.out | refine below_set ?_ GE157.out) | exact HB.out)⟩⟩
                                          · rw [if_neg c52] at H
                                            have c52b0 : (t162 == 0) = false := beq_eq_false_iff_ne.mpr c52
                                            have c52b1 : (t162 != 0) = true := bne_iff_ne.mpr c52
                                            have H' := Aside0.mk H
                                            clear H
                                            obtain ⟨Ao64, co64, eo64⟩ := Kd.R_slice HO_5.out
                                            subst eo64
                                            have p160 : 0 ≤ (2 : Int) := (by omega)
                                            have q160 : 2 < (x5_1.length : Int) := of_decide_eq_true (by first | (with_reducible assumption) | assumption)
                                            obtain ⟨ad160, e160, hx160_0⟩ := Kd.at_int (Kd.R_reads' HO_5.out).2.2 2 p160 q160
                                            cases e160
                                            (try simp only [show (2 : Int).toNat = 2 from rfl, Nat.reduceMul, Nat.reduceEqDiff, Go.Addr.add, ↓reduceIte] at hx160_0)
                                            have qi160 : (2 < x5_1.length) = True := eq_true (by omega)
                                            (try rw [show ((2 : Int)).toNat = 2 from rfl] at hx160_0)
                                            replace p160 := eq_true p160
                                            replace q160 := eq_true q160
                                            have hnb65 := NB157_146.out
                                            have hnc65 := NB146_157.out
                                            have hcz66_0 : wc.cell? ⟨gb157, 0, none⟩ = some (.int .i64 x9_3) := (blk_cell BK157.out 0).trans rfl
                                            have hcz66_1 : wc.cell? ⟨gb157, 1, none⟩ = some (.int .i64 x158001_36) := (blk_cell BK157.out 1).trans rfl
                                            have hcz66_2 : wc.cell? ⟨gb157, 2, none⟩ = some (.int .i64 x158002_42) := (blk_cell BK157.out 2).trans rfl
                                            have hcz66_3 : wc.cell? ⟨gb157, 3, none⟩ = some (.int .i64 0) := (blk_cell BK157.out 3).trans rfl
                                            have hcz66_4 : wc.cell? ⟨gb157, 4, none⟩ = some (.string x158004_29) := (blk_cell BK157.out 4).trans rfl
                                            have hfz66_0 := blk_frozen BK157.out 0
                                            have hfz66_1 := blk_frozen BK157.out 1
                                            have hfz66_2 := blk_frozen BK157.out 2
                                            have hfz66_3 := blk_frozen BK157.out 3
                                            have hfz66_4 := blk_frozen BK157.out 4
                                            go_wp2_with (first | ((with_reducible refine gate_callee (f := 30) rfl ?_); refine goesL_ (some 80) rfl rfl Tryd.func30 (by kernel_rfl) rfl #[.agg #[.int .i64 x9_3, .int .i64 x158001_36, .int .i64 x158002_42, .int .i64 (rd x5_1 2), .string x158004_29]] rfl (by (try simp only [List.map_toArray, List.map_cons, List.map_nil]); first | done | rfl | (simp only [List.length_drop, List.length_take]; rfl)) ?_; (with_reducible refine (cubbyref21_Tell.calls kj42 x9_3 x158001_36 x158002_42 (rd x5_1 2) x158004_29 t161 t162 _ ?side1 A51.out).mono ?_); (case side1 => exact GW_below hGA.out (by repeat (first | (with_reducible first | exact HB.out | apply below_alloc | apply pw_below_drewN | apply below_drew1 | refine below_set ?_ GE146.out | refine below_set ?_ GE157.out) | exact HB.out))); rintro e w67 ⟨rfl, hb⟩; refine ⟨_, rfl, ?_⟩; have n0_ := Aside0.mk (Kd.R_below (by (with_reducible repeat (first | apply Kd.R_alloc | apply Kd.R_drewN | apply Kd.R_drew)); exact (Kd.R_mono (Kd.R_far (p := ⟨gb157, 3, none⟩) (Kd.R_types HO_5.out BK157.out (by decide)) (fun _ hk => hk.2) (.int .i64 (rd x5_1 2))) (fun _ h_ => h_.1))) hb); have n1_ := Aside0.mk (blk_below (g := gb146) (o := .cells #[.int .i64 x147000_3, .int .i64 x147001_3, .int .i64 x147002_3, .int .i64 x147003_3, .string x147004_3] 34 (0, 0)) (by (with_reducible repeat (first | refine blk_drewN ?_ _ | refine blk_drew ?_ | refine blk_alloc ?_ _)); refine blk_far ?_ NB146_157.out _; (with_reducible repeat (first | refine blk_drewN ?_ _ | refine blk_drew ?_ | refine blk_alloc ?_ _)); exact BK146.out) hb); have n2_ := Aside0.mk (blk_below (g := gb157) (o := .cells #[.int .i64 x9_3, .int .i64 x158001_36, .int .i64 x158002_42, .int .i64 (rd x5_1 2), .string x158004_29] 34 (0, 0)) (by (with_reducible repeat (first | refine blk_drewN ?_ _ | refine blk_drew ?_ | refine blk_alloc ?_ _)); refine blk_put (cs := #[.int .i64 x9_3, .int .i64 x158001_36, .int .i64 x158002_42, .int .i64 0, .string x158004_29]) ?_ 3 _ rfl; (with_reducible repeat (first | refine blk_drewN ?_ _ | refine blk_drew ?_ | refine blk_alloc ?_ _)); exact BK157.out) hb); have n3_ := Aside0.mk (below_step (by repeat (first | (with_reducible first | exact HB.out | apply below_alloc | apply pw_below_drewN | apply below_drew1 | refine below_set ?_ GE146.out | refine below_set ?_ GE157.out) | exact HB.out)) hb); clear HO_5; clear BK146; clear BK157; clear HB; have HO_5 := n0_; have BK146 := n1_; have BK157 := n2_; have HB := n3_; clear n0_ n1_ n2_ n3_; (try clear hb); (try clear hb2); (try clear hk); (try clear hi)))
                                            go_roundg kj42
                                            case measure => have := HK1.out; have := HJ6.out; have := HK3.out; have := HJ24.out; have := HJ29.out; have := HJ34.out; have := HJ36.out; have := HJ42.out; omega
                                            case rel => exact ⟨(wrap64 (x9_3 + 1)), (x147000_3), (x147001_3), (x147002_3), (x147003_3), (x147004_3), (by first | rfl | (simp; done) | (simp [*]; done)), H', ⟨by have := HK1.out; have := HJ6.out; have := HK3.out; have := HJ24.out; have := HJ29.out; have := HJ34.out; have := HJ36.out; have := HJ42.out; omega⟩, ⟨by (with_reducible repeat (first | apply Kd.R_alloc | apply Kd.R_drewN | apply Kd.R_drew)); exact HO_5.out⟩, ⟨by (with_reducible repeat (first | refine blk_drewN ?_ _ | refine blk_drew ?_ | refine blk_alloc ?_ _)); exact BK146.out⟩, ⟨by repeat (first | (with_reducible first | exact HB.out | apply below_alloc | apply pw_below_drewN | apply below_drew1 | refine below_set ?_ GE146.out | refine below_set ?_ GE157.out) | exact HB.out)⟩⟩
                                        · rw [if_neg c50] at H
                                          exact absurd H (by simp)
                                      · rw [if_neg c49] at H
                                        have c49b0 : (x9_3 == 5) = false := beq_eq_false_iff_ne.mpr c49
                                        have c49b1 : (x9_3 != 5) = true := bne_iff_ne.mpr c49
                                        replace H := Option.bind_eq_some_iff.mp H
                                        obtain ⟨⟨t163, t164⟩, A680, H⟩ := H
                                        replace H : (if t164 = 0 then (if t163.toList = a0.toList then (some (x9_3, x158001_36, x158002_42, 0, x158004_29, 0)) else (cubbyref21_Hear.l1 kj42 a0 x5_1 (wrap64 (x9_3 + 1)))) else (cubbyref21_Hear.l1 kj42 a0 x5_1 (wrap64 (x9_3 + 1)))) = some (r1, r2, r3, r4, r5, r6) := H
                                        have A68 := Aside0.mk A680
                                        clear A680
                                        by_cases c69 : t164 = 0
                                        · rw [if_pos c69] at H
                                          have c69b0 : (t164 == 0) = true := beq_iff_eq.mpr c69
                                          have c69b1 : (t164 != 0) = false := bne_eq_false_iff_eq.mpr c69
                                          clear c69
                                          by_cases c70 : t163.toList = a0.toList
                                          · rw [if_pos c70] at H
                                            have c70b0 : (t163.toList == a0.toList) = true := beq_iff_eq.mpr c70
                                            have c70b1 : (t163.toList != a0.toList) = false := bne_eq_false_iff_eq.mpr c70
                                            clear c70
                                            simp only [Option.some.injEq, Prod.mk.injEq] at H
                                            obtain ⟨rfl, rfl, rfl, rfl, rfl, rfl⟩ := H
                                            have hnb71 := NB157_146.out
                                            have hnc71 := NB146_157.out
                                            have hcz72_0 : wc.cell? ⟨gb157, 0, none⟩ = some (.int .i64 x9_3) := (blk_cell BK157.out 0).trans rfl
                                            have hcz72_1 : wc.cell? ⟨gb157, 1, none⟩ = some (.int .i64 x158001_36) := (blk_cell BK157.out 1).trans rfl
                                            have hcz72_2 : wc.cell? ⟨gb157, 2, none⟩ = some (.int .i64 x158002_42) := (blk_cell BK157.out 2).trans rfl
                                            have hcz72_3 : wc.cell? ⟨gb157, 3, none⟩ = some (.int .i64 0) := (blk_cell BK157.out 3).trans rfl
                                            have hcz72_4 : wc.cell? ⟨gb157, 4, none⟩ = some (.string x158004_29) := (blk_cell BK157.out 4).trans rfl
                                            have hfz72_0 := blk_frozen BK157.out 0
                                            have hfz72_1 := blk_frozen BK157.out 1
                                            have hfz72_2 := blk_frozen BK157.out 2
                                            have hfz72_3 := blk_frozen BK157.out 3
                                            have hfz72_4 := blk_frozen BK157.out 4
                                            go_wp2_with (first | ((with_reducible refine gate_callee (f := 30) rfl ?_); refine goesL_ (some 80) rfl rfl Tryd.func30 (by kernel_rfl) rfl #[.agg #[.int .i64 x9_3, .int .i64 x158001_36, .int .i64 x158002_42, .int .i64 0, .string x158004_29]] rfl (by (try simp only [List.map_toArray, List.map_cons, List.map_nil]); first | done | rfl | (simp only [List.length_drop, List.length_take]; rfl)) ?_; (with_reducible refine (cubbyref21_Tell.calls kj42 x9_3 x158001_36 x158002_42 0 x158004_29 t163 t164 _ ?side1 A68.out).mono ?_); (case side1 => exact GW_below hGA.out (by repeat (first | (with_reducible first | exact HB.out | apply below_alloc | apply pw_below_drewN | apply below_drew1 | refine below_set ?_ GE146.out | refine below_set ?_ GE157.out) | exact HB.out))); rintro e w73 ⟨rfl, hb⟩; refine ⟨_, rfl, ?_⟩; have n0_ := Aside0.mk (Kd.R_below (by (with_reducible repeat (first | apply Kd.R_alloc | apply Kd.R_drewN | apply Kd.R_drew)); exact HO_5.out) hb); have n1_ := Aside0.mk (blk_below (g := gb146) (o := .cells #[.int .i64 x147000_3, .int .i64 x147001_3, .int .i64 x147002_3, .int .i64 x147003_3, .string x147004_3] 34 (0, 0)) (by (with_reducible repeat (first | refine blk_drewN ?_ _ | refine blk_drew ?_ | refine blk_alloc ?_ _)); exact BK146.out) hb); have n2_ := Aside0.mk (blk_below (g := gb157) (o := .cells #[.int .i64 x9_3, .int .i64 x158001_36, .int .i64 x158002_42, .int .i64 0, .string x158004_29] 34 (0, 0)) (by (with_reducible repeat (first | refine blk_drewN ?_ _ | refine blk_drew ?_ | refine blk_alloc ?_ _)); exact BK157.out) hb); have n3_ := Aside0.mk (below_step (by repeat (first | (with_reducible first | exact HB.out | apply below_alloc | apply pw_below_drewN | apply below_drew1 | refine below_set ?_ GE146.out | refine below_set ?_ GE157.out) | exact HB.out)) hb); clear HO_5; clear BK146; clear BK157; clear HB; have HO_5 := n0_; have BK146 := n1_; have BK157 := n2_; have HB := n3_; clear n0_ n1_ n2_ n3_; (try clear hb); (try clear hb2); (try clear hk); (try clear hi); have hcz74_0 : w73.cell? ⟨gb157, 0, none⟩ = some (.int .i64 x9_3) := (blk_cell BK157.out 0).trans rfl; have hcz74_1 : w73.cell? ⟨gb157, 1, none⟩ = some (.int .i64 x158001_36) := (blk_cell BK157.out 1).trans rfl; have hcz74_2 : w73.cell? ⟨gb157, 2, none⟩ = some (.int .i64 x158002_42) := (blk_cell BK157.out 2).trans rfl; have hcz74_3 : w73.cell? ⟨gb157, 3, none⟩ = some (.int .i64 0) := (blk_cell BK157.out 3).trans rfl; have hcz74_4 : w73.cell? ⟨gb157, 4, none⟩ = some (.string x158004_29) := (blk_cell BK157.out 4).trans rfl; have hfz74_0 := blk_frozen BK157.out 0; have hfz74_1 := blk_frozen BK157.out 1; have hfz74_2 := blk_frozen BK157.out 2; have hfz74_3 := blk_frozen BK157.out 3; have hfz74_4 := blk_frozen BK157.out 4; have hcz75_0 : w73.cell? ⟨gb146, 0, none⟩ = some (.int .i64 x147000_3) := (blk_cell BK146.out 0).trans rfl; have hcz75_1 : w73.cell? ⟨gb146, 1, none⟩ = some (.int .i64 x147001_3) := (blk_cell BK146.out 1).trans rfl; have hcz75_2 : w73.cell? ⟨gb146, 2, none⟩ = some (.int .i64 x147002_3) := (blk_cell BK146.out 2).trans rfl; have hcz75_3 : w73.cell? ⟨gb146, 3, none⟩ = some (.int .i64 x147003_3) := (blk_cell BK146.out 3).trans rfl; have hcz75_4 : w73.cell? ⟨gb146, 4, none⟩ = some (.string x147004_3) := (blk_cell BK146.out 4).trans rfl; have hfz75_0 := blk_frozen BK146.out 0; have hfz75_1 := blk_frozen BK146.out 1; have hfz75_2 := blk_frozen BK146.out 2; have hfz75_3 := blk_frozen BK146.out 3; have hfz75_4 := blk_frozen BK146.out 4))
                                            refine bodyPost_ret (results_ct rfl _ _ gb146 34 #[.int .i64 x9_3, .int .i64 x158001_36, .int .i64 x158002_42, .int .i64 0, .string x158004_29] (0, 0) _ rfl (by (with_reducible repeat (first | refine blk_drewN ?_ _ | refine blk_drew ?_ | refine blk_alloc ?_ _)); refine blk_put (cs := #[.int .i64 x9_3, .int .i64 x158001_36, .int .i64 x158002_42, .int .i64 0, .string x147004_3]) ?_ 4 _ rfl; (with_reducible repeat (first | refine blk_drewN ?_ _ | refine blk_drew ?_ | refine blk_alloc ?_ _)); refine blk_put (cs := #[.int .i64 x9_3, .int .i64 x158001_36, .int .i64 x158002_42, .int .i64 x147003_3, .string x147004_3]) ?_ 3 _ rfl; (with_reducible repeat (first | refine blk_drewN ?_ _ | refine blk_drew ?_ | refine blk_alloc ?_ _)); refine blk_put (cs := #[.int .i64 x9_3, .int .i64 x158001_36, .int .i64 x147002_3, .int .i64 x147003_3, .string x147004_3]) ?_ 2 _ rfl; (with_reducible repeat (first | refine blk_drewN ?_ _ | refine blk_drew ?_ | refine blk_alloc ?_ _)); refine blk_put (cs := #[.int .i64 x9_3, .int .i64 x147001_3, .int .i64 x147002_3, .int .i64 x147003_3, .string x147004_3]) ?_ 1 _ rfl; (with_reducible repeat (first | refine blk_drewN ?_ _ | refine blk_drew ?_ | refine blk_alloc ?_ _)); refine blk_put (cs := #[.int .i64 x147000_3, .int .i64 x147001_3, .int .i64 x147002_3, .int .i64 x147003_3, .string x147004_3]) ?_ 0 _ rfl; (with_reducible repeat (first | refine blk_drewN ?_ _ | refine blk_drew ?_ | refine blk_alloc ?_ _)); exact BK146.out) Tryd.underlying34 rfl (by kernel_rfl)) rfl ?_
                                            exact ⟨by first | rfl | (simp [errW_none, errW_some] <;> rfl) | (simp [*, errW_none, errW_some] <;> rfl), by repeat (first | (with_reducible first | exact HB.out | apply below_alloc | apply pw_below_drewN | apply below_drew1 | refine below_set ?_ GE146.out | refine below_set ?_ GE157.out) | exact HB.out)⟩
                                          · rw [if_neg c70] at H
                                            have c70b0 : (t163.toList == a0.toList) = false := beq_eq_false_iff_ne.mpr c70
                                            have c70b1 : (t163.toList != a0.toList) = true := bne_iff_ne.mpr c70
                                            have H' := Aside0.mk H
                                            clear H
                                            have hnb76 := NB157_146.out
                                            have hnc76 := NB146_157.out
                                            have hcz77_0 : wc.cell? ⟨gb157, 0, none⟩ = some (.int .i64 x9_3) := (blk_cell BK157.out 0).trans rfl
                                            have hcz77_1 : wc.cell? ⟨gb157, 1, none⟩ = some (.int .i64 x158001_36) := (blk_cell BK157.out 1).trans rfl
                                            have hcz77_2 : wc.cell? ⟨gb157, 2, none⟩ = some (.int .i64 x158002_42) := (blk_cell BK157.out 2).trans rfl
                                            have hcz77_3 : wc.cell? ⟨gb157, 3, none⟩ = some (.int .i64 0) := (blk_cell BK157.out 3).trans rfl
                                            have hcz77_4 : wc.cell? ⟨gb157, 4, none⟩ = some (.string x158004_29) := (blk_cell BK157.out 4).trans rfl
                                            have hfz77_0 := blk_frozen BK157.out 0
                                            have hfz77_1 := blk_frozen BK157.out 1
                                            have hfz77_2 := blk_frozen BK157.out 2
                                            have hfz77_3 := blk_frozen BK157.out 3
                                            have hfz77_4 := blk_frozen BK157.out 4
                                            go_wp2_with (first | ((with_reducible refine gate_callee (f := 30) rfl ?_); refine goesL_ (some 80) rfl rfl Tryd.func30 (by kernel_rfl) rfl #[.agg #[.int .i64 x9_3, .int .i64 x158001_36, .int .i64 x158002_42, .int .i64 0, .string x158004_29]] rfl (by (try simp only [List.map_toArray, List.map_cons, List.map_nil]); first | done | rfl | (simp only [List.length_drop, List.length_take]; rfl)) ?_; (with_reducible refine (cubbyref21_Tell.calls kj42 x9_3 x158001_36 x158002_42 0 x158004_29 t163 t164 _ ?side1 A68.out).mono ?_); (case side1 => exact GW_below hGA.out (by repeat (first | (with_reducible first | exact HB.out | apply below_alloc | apply pw_below_drewN | apply below_drew1 | refine below_set ?_ GE146.out | refine below_set ?_ GE157.out) | exact HB.out))); rintro e w78 ⟨rfl, hb⟩; refine ⟨_, rfl, ?_⟩; have n0_ := Aside0.mk (Kd.R_below (by (with_reducible repeat (first | apply Kd.R_alloc | apply Kd.R_drewN | apply Kd.R_drew)); exact HO_5.out) hb); have n1_ := Aside0.mk (blk_below (g := gb146) (o := .cells #[.int .i64 x147000_3, .int .i64 x147001_3, .int .i64 x147002_3, .int .i64 x147003_3, .string x147004_3] 34 (0, 0)) (by (with_reducible repeat (first | refine blk_drewN ?_ _ | refine blk_drew ?_ | refine blk_alloc ?_ _)); exact BK146.out) hb); have n2_ := Aside0.mk (blk_below (g := gb157) (o := .cells #[.int .i64 x9_3, .int .i64 x158001_36, .int .i64 x158002_42, .int .i64 0, .string x158004_29] 34 (0, 0)) (by (with_reducible repeat (first | refine blk_drewN ?_ _ | refine blk_drew ?_ | refine blk_alloc ?_ _)); exact BK157.out) hb); have n3_ := Aside0.mk (below_step (by repeat (first | (with_reducible first | exact HB.out | apply below_alloc | apply pw_below_drewN | apply below_drew1 | refine below_set ?_ GE146.out | refine below_set ?_ GE157.out) | exact HB.out)) hb); clear HO_5; clear BK146; clear BK157; clear HB; have HO_5 := n0_; have BK146 := n1_; have BK157 := n2_; have HB := n3_; clear n0_ n1_ n2_ n3_; (try clear hb); (try clear hb2); (try clear hk); (try clear hi)))
                                            go_roundg kj42
                                            case measure => have := HK1.out; have := HJ6.out; have := HK3.out; have := HJ24.out; have := HJ29.out; have := HJ34.out; have := HJ36.out; have := HJ42.out; omega
                                            case rel => exact ⟨(wrap64 (x9_3 + 1)), (x147000_3), (x147001_3), (x147002_3), (x147003_3), (x147004_3), (by first | rfl | (simp; done) | (simp [*]; done)), H', ⟨by have := HK1.out; have := HJ6.out; have := HK3.out; have := HJ24.out; have := HJ29.out; have := HJ34.out; have := HJ36.out; have := HJ42.out; omega⟩, ⟨by (with_reducible repeat (first | apply Kd.R_alloc | apply Kd.R_drewN | apply Kd.R_drew)); exact HO_5.out⟩, ⟨by (with_reducible repeat (first | refine blk_drewN ?_ _ | refine blk_drew ?_ | refine blk_alloc ?_ _)); exact BK146.out⟩, ⟨by repeat (first | (with_reducible first | exact HB.out | apply below_alloc | apply pw_below_drewN | apply below_drew1 | refine below_set ?_ GE146.out | refine below_set ?_ GE157.out) | exact HB.out)⟩⟩
                                        · rw [if_neg c69] at H
                                          have c69b0 : (t164 == 0) = false := beq_eq_false_iff_ne.mpr c69
                                          have c69b1 : (t164 != 0) = true := bne_iff_ne.mpr c69
                                          have H' := Aside0.mk H
                                          clear H
                                          have hnb79 := NB157_146.out
                                          have hnc79 := NB146_157.out
                                          have hcz80_0 : wc.cell? ⟨gb157, 0, none⟩ = some (.int .i64 x9_3) := (blk_cell BK157.out 0).trans rfl
                                          have hcz80_1 : wc.cell? ⟨gb157, 1, none⟩ = some (.int .i64 x158001_36) := (blk_cell BK157.out 1).trans rfl
                                          have hcz80_2 : wc.cell? ⟨gb157, 2, none⟩ = some (.int .i64 x158002_42) := (blk_cell BK157.out 2).trans rfl
                                          have hcz80_3 : wc.cell? ⟨gb157, 3, none⟩ = some (.int .i64 0) := (blk_cell BK157.out 3).trans rfl
                                          have hcz80_4 : wc.cell? ⟨gb157, 4, none⟩ = some (.string x158004_29) := (blk_cell BK157.out 4).trans rfl
                                          have hfz80_0 := blk_frozen BK157.out 0
                                          have hfz80_1 := blk_frozen BK157.out 1
                                          have hfz80_2 := blk_frozen BK157.out 2
                                          have hfz80_3 := blk_frozen BK157.out 3
                                          have hfz80_4 := blk_frozen BK157.out 4
                                          go_wp2_with (first | ((with_reducible refine gate_callee (f := 30) rfl ?_); refine goesL_ (some 80) rfl rfl Tryd.func30 (by kernel_rfl) rfl #[.agg #[.int .i64 x9_3, .int .i64 x158001_36, .int .i64 x158002_42, .int .i64 0, .string x158004_29]] rfl (by (try simp only [List.map_toArray, List.map_cons, List.map_nil]); first | done | rfl | (simp only [List.length_drop, List.length_take]; rfl)) ?_; (with_reducible refine (cubbyref21_Tell.calls kj42 x9_3 x158001_36 x158002_42 0 x158004_29 t163 t164 _ ?side1 A68.out).mono ?_); (case side1 => exact GW_below hGA.out (by repeat (first | (with_reducible first | exact HB.out | apply below_alloc | apply pw_below_drewN | apply below_drew1 | refine below_set ?_ GE146.out | refine below_set ?_ GE157.out) | exact HB.out))); rintro e w81 ⟨rfl, hb⟩; refine ⟨_, rfl, ?_⟩; have n0_ := Aside0.mk (Kd.R_below (by (with_reducible repeat (first | apply Kd.R_alloc | apply Kd.R_drewN | apply Kd.R_drew)); exact HO_5.out) hb); have n1_ := Aside0.mk (blk_below (g := gb146) (o := .cells #[.int .i64 x147000_3, .int .i64 x147001_3, .int .i64 x147002_3, .int .i64 x147003_3, .string x147004_3] 34 (0, 0)) (by (with_reducible repeat (first | refine blk_drewN ?_ _ | refine blk_drew ?_ | refine blk_alloc ?_ _)); exact BK146.out) hb); have n2_ := Aside0.mk (blk_below (g := gb157) (o := .cells #[.int .i64 x9_3, .int .i64 x158001_36, .int .i64 x158002_42, .int .i64 0, .string x158004_29] 34 (0, 0)) (by (with_reducible repeat (first | refine blk_drewN ?_ _ | refine blk_drew ?_ | refine blk_alloc ?_ _)); exact BK157.out) hb); have n3_ := Aside0.mk (below_step (by repeat (first | (with_reducible first | exact HB.out | apply below_alloc | apply pw_below_drewN | apply below_drew1 | refine below_set ?_ GE146.out | refine below_set ?_ GE157.out) | exact HB.out)) hb); clear HO_5; clear BK146; clear BK157; clear HB; have HO_5 := n0_; have BK146 := n1_; have BK157 := n2_; have HB := n3_; clear n0_ n1_ n2_ n3_; (try clear hb); (try clear hb2); (try clear hk); (try clear hi)))
                                          go_roundg kj42
                                          case measure => have := HK1.out; have := HJ6.out; have := HK3.out; have := HJ24.out; have := HJ29.out; have := HJ34.out; have := HJ36.out; have := HJ42.out; omega
                                          case rel => exact ⟨(wrap64 (x9_3 + 1)), (x147000_3), (x147001_3), (x147002_3), (x147003_3), (x147004_3), (by first | rfl | (simp; done) | (simp [*]; done)), H', ⟨by have := HK1.out; have := HJ6.out; have := HK3.out; have := HJ24.out; have := HJ29.out; have := HJ34.out; have := HJ36.out; have := HJ42.out; omega⟩, ⟨by (with_reducible repeat (first | apply Kd.R_alloc | apply Kd.R_drewN | apply Kd.R_drew)); exact HO_5.out⟩, ⟨by (with_reducible repeat (first | refine blk_drewN ?_ _ | refine blk_drew ?_ | refine blk_alloc ?_ _)); exact BK146.out⟩, ⟨by repeat (first | (with_reducible first | exact HB.out | apply below_alloc | apply pw_below_drewN | apply below_drew1 | refine below_set ?_ GE146.out | refine below_set ?_ GE157.out) | exact HB.out)⟩⟩
                · rw [if_neg c24] at H
                  have c24b0 : decide (x9_3 ≤ 5) = false := decide_eq_false c24
                  clear c24
                  simp only [Option.some.injEq, Prod.mk.injEq] at H
                  obtain ⟨rfl, rfl, rfl, rfl, rfl, rfl⟩ := H
                  have hcz82_0 : wr.cell? ⟨gb146, 0, none⟩ = some (.int .i64 x147000_3) := (blk_cell BK146.out 0).trans rfl
                  have hcz82_1 : wr.cell? ⟨gb146, 1, none⟩ = some (.int .i64 x147001_3) := (blk_cell BK146.out 1).trans rfl
                  have hcz82_2 : wr.cell? ⟨gb146, 2, none⟩ = some (.int .i64 x147002_3) := (blk_cell BK146.out 2).trans rfl
                  have hcz82_3 : wr.cell? ⟨gb146, 3, none⟩ = some (.int .i64 x147003_3) := (blk_cell BK146.out 3).trans rfl
                  have hcz82_4 : wr.cell? ⟨gb146, 4, none⟩ = some (.string x147004_3) := (blk_cell BK146.out 4).trans rfl
                  have hfz82_0 := blk_frozen BK146.out 0
                  have hfz82_1 := blk_frozen BK146.out 1
                  have hfz82_2 := blk_frozen BK146.out 2
                  have hfz82_3 := blk_frozen BK146.out 3
                  have hfz82_4 := blk_frozen BK146.out 4
                  go_wp2
                  refine bodyPost_ret (results_ct rfl _ _ gb146 34 #[.int .i64 0, .int .i64 0, .int .i64 0, .int .i64 0, .string (⟨#[]⟩ : ByteArray)] (0, 0) _ rfl (by (with_reducible repeat (first | refine blk_drewN ?_ _ | refine blk_drew ?_ | refine blk_alloc ?_ _)); refine blk_put (cs := #[.int .i64 0, .int .i64 0, .int .i64 0, .int .i64 0, .string x147004_3]) ?_ 4 _ rfl; (with_reducible repeat (first | refine blk_drewN ?_ _ | refine blk_drew ?_ | refine blk_alloc ?_ _)); refine blk_put (cs := #[.int .i64 0, .int .i64 0, .int .i64 0, .int .i64 x147003_3, .string x147004_3]) ?_ 3 _ rfl; (with_reducible repeat (first | refine blk_drewN ?_ _ | refine blk_drew ?_ | refine blk_alloc ?_ _)); refine blk_put (cs := #[.int .i64 0, .int .i64 0, .int .i64 x147002_3, .int .i64 x147003_3, .string x147004_3]) ?_ 2 _ rfl; (with_reducible repeat (first | refine blk_drewN ?_ _ | refine blk_drew ?_ | refine blk_alloc ?_ _)); refine blk_put (cs := #[.int .i64 0, .int .i64 x147001_3, .int .i64 x147002_3, .int .i64 x147003_3, .string x147004_3]) ?_ 1 _ rfl; (with_reducible repeat (first | refine blk_drewN ?_ _ | refine blk_drew ?_ | refine blk_alloc ?_ _)); refine blk_put (cs := #[.int .i64 x147000_3, .int .i64 x147001_3, .int .i64 x147002_3, .int .i64 x147003_3, .string x147004_3]) ?_ 0 _ rfl; (with_reducible repeat (first | refine blk_drewN ?_ _ | refine blk_drew ?_ | refine blk_alloc ?_ _)); exact BK146.out) Tryd.underlying34 rfl (by kernel_rfl)) rfl ?_
                  exact ⟨by first | rfl | (simp [errW_none, errW_some] <;> rfl) | (simp [*, errW_none, errW_some] <;> rfl), by repeat (first | (with_reducible first | exact HB.out | apply below_alloc | apply pw_below_drewN | apply below_drew1 | refine below_set ?_ GE146.out) | exact HB.out)⟩

end Go.Proofs.YtfibkajflenekaaDoor.PAsk
