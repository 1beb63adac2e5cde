/-
  Rows of rows whose last row grows: what an append to the last row asks, and what it leaves. No condition but those that stand in each theorem.
-/
import Derived.Test.YtfibkajflenekaaDoorBlocks
import Derived.Test.YtfibkajflenekaaDoorPTxx0
namespace Go.Proofs.YtfibkajflenekaaDoor.G
set_option linter.unusedVariables false
set_option linter.unusedSimpArgs false
open Go.RowKit Go.Proofs.YtfibkajflenekaaDoorW.PrintWords Go.Proofs.YtfibkajflenekaaDoorW.PrintLast Go.Proofs.YtfibkajflenekaaDoor.PTx

def addLast (bs : List (List S72)) (x : S72) : List (List S72) := bs.dropLast ++ [bs.getLast?.getD [] ++ [x]]
theorem addLast_snoc (ini : List (List S72)) (l : List S72) (x : S72) : addLast (ini ++ [l]) x = ini ++ [l ++ [x]] := by simp [addLast]
theorem BI.of_nil {w : World} {base : Nat} {ok : Nat → Prop} {v : Value} (h : (Kd.slice 72 k72).R 48 w base ok v []) : BI k72 72 48 w base v [] := by
  obtain ⟨_, inner, ho, _⟩ := h
  have : inner = [] := List.eq_nil_of_length_eq_zero (by have := ho.1; simpa using this)
  subst this
  exact .inl ⟨rfl, ho⟩
theorem int_push {w w1 : World} {b base E sz n : Nat} {v vh : Value} {head : List Int} {inner : List Value} (h : (Kd.int .i64).R 3 w base (fun _ => True) vh head) (ho : w.ownsRow b E sz v n inner) (hE : 3 ≠ E) (hg : w.grownBy w1 v.ownBlock) : (Kd.int .i64).R 3 w1 base (fun _ => True) vh head := by
  rcases hv : v.ownBlock with _ | g
  · rw [hv] at hg
    exact Kd.R_grown h hg (fun _ _ he => by cases he)
  · obtain ⟨cells, hc⟩ := own_typed ho g hv
    have h1 := Kd.R_types h hc (fun q hq => by
      rcases List.mem_cons.1 hq with rfl | hq
      · exact hE
      · cases hq)
    rw [hv] at hg
    exact Kd.R_mono (Kd.R_grown h1 hg (fun k hk he => hk.2 (by injection he))) (fun _ _ => trivial)
/-- What an append to the last row asks: the element's cells, made in a world behind the row's. -/
theorem Tail.ready {w4 W : World} {base N : Nat} {v u : Value} {ini : List (List S72)} {x : List S72} {vs : List Value} {p : S72} {v5 : Value} (h : Tail k72 72 48 w4 base v ini x vs u N) (hb : Below w4.heap.size w4 W) (hbase : base ≤ w4.heap.size) (hx : (Kd.int .i64).R 3 W w4.heap.size (fun _ => True) v5 p.f5) :
    k72.M W base (fun k => w4.heap.size ≤ k) p [.int .i64 p.f0, .int .i64 p.f1, .int .i64 p.f2, .int .i64 p.f3, .string p.f4, v5] ∧ (∀ k, w4.heap.size ≤ k → (N ≤ k ∧ some k ≠ v.ownBlock) ∧ some k ≠ u.ownBlock) ∧ (∀ k, W.heap.size ≤ k → N ≤ k ∧ some k ≠ v.ownBlock) := by
  have hle := h.le
  have hv : ∀ k, v.ownBlock = some k → k < w4.heap.size := fun k hk => own_lt h.own k hk
  have hu : ∀ k, u.ownBlock = some k → k < w4.heap.size := fun k hk => own_lt h.last.2.choose_spec.1 k hk
  have hall : ∀ k, w4.heap.size ≤ k → (N ≤ k ∧ some k ≠ v.ownBlock) ∧ some k ≠ u.ownBlock := fun k hk => ⟨⟨by omega, fun he => by have := hv k he.symm; omega⟩, fun he => by have := hu k he.symm; omega⟩
  refine ⟨?_, hall, fun k hk => (hall k (Nat.le_trans hb.size hk)).1⟩
  exact k72_mkM W base _ p (Kd.R_mono (Kd.R_lower (Kd.R_bound hx) hbase) (fun k hk => hk.2.1))
theorem Tail.ne {w4 : World} {base N n c g : Nat} {u : Value} {ini : List (List S72)} {x : List S72} {vs : List Value} (h : Tail k72 72 48 w4 base (.slice (some ⟨g, 0, none⟩) n c) ini x vs u N) : some g ≠ u.ownBlock ∧ ∀ k, u.ownBlock = some k → k < w4.heap.size := by
  refine ⟨fun he => ?_, fun k hk => own_lt h.last.2.choose_spec.1 k hk⟩
  obtain ⟨_, hx⟩ := own_typed h.last.2.choose_spec.1 g he.symm
  obtain ⟨_, hy⟩ := own_typed h.own g rfl
  rw [hx] at hy
  injection hy with hy
  injection hy with _ hy
  cases hy
theorem Tail.done {w0 W1 w1 : World} {base N m g c : Nat} {u u1 vh : Value} {ini : List (List S72)} {x : List S72} {vs : List Value} {p : S72} {head : List Int} (h : Tail k72 72 48 W1 base (.slice (some ⟨g, 0, none⟩) (m + 1) c) ini x vs u N) (hm : ini.length = m)
    (hu : k72.R 72 w1 base (fun k => N ≤ k ∧ some k ≠ (Value.slice (some ⟨g, 0, none⟩) (m + 1) c).ownBlock) u1 (x ++ [p])) (hg : W1.grownBy w1 u.ownBlock) (hb1 : Below base w0 w1) (hi : (Kd.int .i64).R 3 W1 base (fun _ => True) vh head) (hbg : base ≤ g) :
    BI k72 72 48 (w1.setCell ⟨g, m, none⟩ u1) base (.slice (some ⟨g, 0, none⟩) (m + 1) c) (addLast (ini ++ [x]) p) ∧ (Kd.int .i64).R 3 (w1.setCell ⟨g, m, none⟩ u1) base (fun _ => True) vh head ∧ Below base w0 (w1.setCell ⟨g, m, none⟩ u1) := by
  subst hm
  have ht := h.app rfl (by decide) (by decide) hu hg
  refine ⟨?_, ?_, hb1.setCell (p := ⟨g, ini.length, none⟩) hbg u1⟩
  · rw [addLast_snoc]
    exact .inr ⟨_, _, _, _, _, rfl, ht⟩
  · have h1 := int_push hi h.last.2.choose_spec.1 (by decide) hg
    obtain ⟨cells, hc⟩ := own_typed (own_other h.own hg (.inr h.ne.1)) g rfl
    exact Kd.R_set h1 hc (fun q hq => by
      rcases List.mem_cons.1 hq with rfl | hq
      · decide
      · cases hq) _ _
theorem below_none {w w1 : World} (hg : w.grownBy w1 none) : Below w.heap.size w w1 := ⟨hg.os, hg.tape, hg.output, hg.size, fun k hk => hg.block k hk (by simp)⟩
theorem infoS : (Tryd.prog.info? 48).map (fun i => (i.zero, i.size, i.bytes)) = some (some (.slice none 0 0), 1, 24) := by kernel_rfl
theorem info72 : (Tryd.prog.info? 72).map (fun i => (i.zero, i.size, i.bytes)) = some (some (.agg #[.int .i64 0, .int .i64 0, .int .i64 0, .int .i64 0, .string ⟨#[]⟩, .slice none 0 0]), 6, 72) := by kernel_rfl

end Go.Proofs.YtfibkajflenekaaDoor.G
