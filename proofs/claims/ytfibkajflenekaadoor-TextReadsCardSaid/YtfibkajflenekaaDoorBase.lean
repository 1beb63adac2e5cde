/-
  What the package variables hold, as one premise that goes through every contract ('GW'), and the contracts of five functions of Go's library (strings.Trim at an ASCII cutset, strings.Cut, strings.Split at a separator that is not empty, strconv.Itoa) in the print's own form. Conditions: those that stand in each '.f'.
-/
import Derived.Test.YtfibkajflenekaaDoorShelf
import Derived.Test.YtfibkajflenekaaDoorWWords
import Derived.Test.YtfibkajflenekaaDoorWLast
import Derived.Lib.LaidTab
import Derived.Lib.AppendIntMem
namespace Go.Proofs.YtfibkajflenekaaDoor.G
set_option linter.unusedVariables false
open Go.RowKit Go.Proofs.YtfibkajflenekaaDoorW.PrintWords Go.Proofs.YtfibkajflenekaaDoorW.PrintLast

theorem bsz (xs : Array UInt8) : (⟨xs⟩ : ByteArray).size = xs.size := rfl
/-- What the package variables hold. -/
structure Vars (w : World) : Prop where
  tab : Lib.TabIs Tryd.prog w "internal/strconv.uint64pow10" .u64 Lib.pow10Tab
  syn : ∃ tp p, w.var? Tryd.prog "strconv.ErrSyntax" = some #[.iface tp p]
  rng : ∃ tp p, w.var? Tryd.prog "strconv.ErrRange" = some #[.iface tp p]
  mlen : ∃ m, w.cell? ⟨0, 0, none⟩ = some (.int .i64 m)
/-- They hold it still: the world lies above one in which they do. -/
def GW (w : World) : Prop := ∃ w0, Vars w0 ∧ Below w0.heap.size w0 w
theorem GW_of {w : World} (h : Vars w) : GW w := ⟨w, h, Below.refl _ _⟩
theorem GW_below {w W : World} (h : GW w) (hb : Below w.heap.size w W) : GW W := by
  obtain ⟨w0, hv, h0⟩ := h
  exact ⟨w0, hv, below_then h0 h0.size hb⟩
theorem GW_drew {w : World} (h : GW w) : GW w.drew := GW_below h (below_drew (Below.refl _ _))
theorem GW_drewN {w : World} (h : GW w) (n : Nat) : GW (w.drewN n) := GW_below h (pw_below_drewN (Below.refl _ _) n)

theorem var_below {g : Nat} {w W : World} {n : String} {cs : Array Value} (hb : Below w.heap.size w W) (hg : Tryd.prog.globalNamed n = some g) (hlt : g < w.heap.size) (hv : w.var? Tryd.prog n = some cs) : W.var? Tryd.prog n = some cs := by
  unfold World.var? at hv ⊢
  simp only [hg, Option.bind_some] at hv ⊢
  rw [hb.block g hlt]
  exact hv
theorem lt_of_var {g : Nat} {w : World} {n : String} {cs : Array Value} (hg : Tryd.prog.globalNamed n = some g) (hv : w.var? Tryd.prog n = some cs) : g < w.heap.size := by
  unfold World.var? at hv
  simp only [hg, Option.bind_some] at hv
  rcases Nat.lt_or_ge g w.heap.size with h | h
  · exact h
  · simp [Array.getElem?_eq_none h] at hv
theorem gTab : Tryd.prog.globalNamed "internal/strconv.uint64pow10" = some 5 := by kernel_rfl
theorem gSyn : Tryd.prog.globalNamed "strconv.ErrSyntax" = some 1 := by kernel_rfl
theorem gRng : Tryd.prog.globalNamed "strconv.ErrRange" = some 2 := by kernel_rfl
theorem GW.tab {w : World} (h : GW w) : Lib.TabIs Tryd.prog w "internal/strconv.uint64pow10" .u64 Lib.pow10Tab := by
  obtain ⟨w0, hv, h0⟩ := h
  have hg := gTab
  exact var_below h0 hg (lt_of_var hg hv.tab) hv.tab
theorem GW.syn {w : World} (h : GW w) : ∃ tp p, w.var? Tryd.prog "strconv.ErrSyntax" = some #[.iface tp p] := by
  obtain ⟨w0, hv, h0⟩ := h
  have hg := gSyn
  obtain ⟨tp, p, hs⟩ := hv.syn
  exact ⟨tp, p, var_below h0 hg (lt_of_var hg hs) hs⟩
theorem GW.rng {w : World} (h : GW w) : ∃ tp p, w.var? Tryd.prog "strconv.ErrRange" = some #[.iface tp p] := by
  obtain ⟨w0, hv, h0⟩ := h
  have hg := gRng
  obtain ⟨tp, p, hs⟩ := hv.rng
  exact ⟨tp, p, var_below h0 hg (lt_of_var hg hs) hs⟩
theorem GW.mlen {w : World} (h : GW w) : ∃ m, w.cell? ⟨0, 0, none⟩ = some (.int .i64 m) := by
  obtain ⟨w0, hv, h0⟩ := h
  obtain ⟨m, hm⟩ := hv.mlen
  exact ⟨m, pw_cell_below h0 hm⟩

/-! ### strings.Trim at an ASCII cutset -/
def strings_Trim.f (a0 a1 : ByteArray) : Option ByteArray :=
  if a0.size ≤ 9223372036854775807 ∧ a1.size < 4294967281 ∧ a1.data.toList.all (fun b => decide (b.toNat < 128)) = true then some ⟨(Lib.trimS a0.data.toList a1.data.toList).toArray⟩ else none
theorem strings_Trim.calls (a0 a1 : ByteArray) (r : ByteArray) (w : World) (hG : GW w) (h : strings_Trim.f a0 a1 = some r) :
    Calls Tryd.prog 39 #[.string a0, .string a1] w fun e w' => e = .returned (.string r) ∧ Below w.heap.size w w' := by
  unfold strings_Trim.f at h
  split at h
  · rename_i hc
    obtain ⟨h1, h2, h3⟩ := hc
    obtain rfl := Option.some.inj h
    refine Any.strings_Trim_laid Tryd.lays160 (by kernel_rfl) a0 a1 w h1 h2 (fun j b hb => ?_)
    have := List.all_eq_true.1 h3 b (List.mem_of_getElem? hb)
    simpa using this
  · cases h

/-! ### strings.Cut -/
def strings_Cut.f (a0 a1 : ByteArray) : Option (ByteArray × ByteArray × Bool) :=
  if a0.size < 4294967281 then some (⟨(Lib.cut a0.data.toList a1.data.toList).1.toArray⟩, ⟨(Lib.cut a0.data.toList a1.data.toList).2.1.toArray⟩, (Lib.cut a0.data.toList a1.data.toList).2.2) else none
theorem strings_Cut.calls (a0 a1 : ByteArray) (r1 r2 : ByteArray) (r3 : Bool) (w : World) (hG : GW w) (h : strings_Cut.f a0 a1 = some (r1, r2, r3)) :
    Calls Tryd.prog 22 #[.string a0, .string a1] w fun e w' => e = .returned (.tuple #[.string r1, .string r2, .bool r3]) ∧ Drawn0 w w' := by
  unfold strings_Cut.f at h
  split at h
  · rename_i hc
    have h := Option.some.inj h
    simp only [Prod.mk.injEq] at h
    obtain ⟨rfl, rfl, rfl⟩ := h
    obtain ⟨m, hm⟩ := hG.mlen
    exact (Tryd.strings_Cut a0 a1 m w hc hm).mono fun e w' ⟨h1, h2⟩ => ⟨h1, ⟨h2⟩⟩
  · cases h

/-! ### strings.Split -/
def strings_Split.f (a0 a1 : ByteArray) : Option (List ByteArray) :=
  if a0.size < 4294967281 ∧ 1 ≤ a1.size then some (Lib.splitB a1 0 (Lib.countB a0 a1) a0) else none
theorem strings_Split.calls (a0 a1 : ByteArray) (r : List ByteArray) (w : World) (hG : GW w) (h : strings_Split.f a0 a1 = some r) :
    Calls Tryd.prog 40 #[.string a0, .string a1] w fun e w' => ∃ v0_ : Value, e = .returned (v0_) ∧ Kd.R Kd.string 9 w' w.heap.size (fun _ => True) v0_ r ∧ Below w.heap.size w w' := by
  unfold strings_Split.f at h
  split at h
  · rename_i hc
    obtain ⟨h1, h2⟩ := hc
    obtain rfl := Option.some.inj h
    obtain ⟨m, hm⟩ := hG.mlen
    refine (Tryd.strings_Split a0 a1 m w h1 hm h2).mono ?_
    rintro e w' ⟨rfl, rfl⟩
    have hl := Lib.splitB_all a1 h2 0 (Lib.countB a0 a1) a0 rfl
    have hle := Lib.countB_le a1 h2 a0.size a0 (Nat.le_refl _)
    refine ⟨_, rfl, ?_, below_alloc (Below.refl _ _) _⟩
    have ho := own_lit_of (enc := Value.string) w w.heap.size 9 (Lib.splitB a1 0 (Lib.countB a0 a1) a0) (Nat.le_refl _) (by omega)
    rw [hl] at ho
    refine Kd.R_of_own (enc := Value.string) (h1 := fun _ => rfl) ?_ (fun _ _ => trivial)
    rw [hl]
    exact ho
  · cases h

/-! ### strconv.Itoa -/
def strconv_Itoa.f (a0 : Int) : Option ByteArray :=
  if -9223372036854775808 ≤ a0 ∧ a0 ≤ 9223372036854775807 then some ⟨(Lib.itoa a0).toArray⟩ else none
theorem strconv_Itoa.calls (a0 : Int) (r : ByteArray) (w : World) (hG : GW w) (h : strconv_Itoa.f a0 = some r) :
    Calls Tryd.prog 42 #[.int .i64 a0] w fun e w' => e = .returned (.string r) ∧ Below w.heap.size w w' := by
  unfold strconv_Itoa.f at h
  split at h
  · rename_i hc
    obtain ⟨h1, h2⟩ := hc
    obtain rfl := Option.some.inj h
    refine (Tryd.strconv_Itoa a0 h1 h2 w hG.tab).mono ?_
    rintro e w' ⟨rfl, k, os, rfl⟩
    exact ⟨rfl, Lib.below_grow _ w (Nat.le_refl _) k os⟩
  · cases h
end Go.Proofs.YtfibkajflenekaaDoor.G
