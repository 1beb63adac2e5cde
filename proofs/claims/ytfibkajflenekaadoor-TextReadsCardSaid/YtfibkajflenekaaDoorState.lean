/-
  What a call keeps that writes into one block and into what was made since; the parser's state. No condition but those that stand in each theorem.
-/
import Derived.Test.YtfibkajflenekaaDoorBlocks
import Derived.Test.YtfibkajflenekaaDoorPTxx0
import Derived.RangeFuncWrites
namespace Go.Proofs.YtfibkajflenekaaDoor.G
set_option linter.unusedVariables false
set_option linter.unusedSimpArgs false
open Go.RowKit Go.Proofs.YtfibkajflenekaaDoorW.PrintWords Go.Proofs.YtfibkajflenekaaDoorW.PrintLast Go.Proofs.YtfibkajflenekaaDoor.PTx

/-- Of what lay below B only the blocks of S have turned; what holds no cells lies as it lay. -/
structure Soft (B : Nat) (S : Nat → Prop) (W W' : World) : Prop where
  os : W'.os = W.os
  tape : W'.tape = W.tape
  output : W'.output = W.output
  size : W.heap.size ≤ W'.heap.size
  low : ∀ k, k < B → ¬ S k → W'.heap[k]? = W.heap[k]?
  stiff : ∀ (k : Nat) (o : Obj), W.heap[k]? = some o → o.isCells = false → W'.heap[k]? = some o
section
variable {B : Nat} {S : Nat → Prop} {W W1 W2 : World}
theorem Soft.refl (B : Nat) (S : Nat → Prop) (W : World) : Soft B S W W := ⟨rfl, rfl, rfl, Nat.le_refl _, fun _ _ _ => rfl, fun _ _ h _ => h⟩
theorem Soft.trans (h : Soft B S W W1) (k : Soft B S W1 W2) : Soft B S W W2 :=
  ⟨k.os.trans h.os, k.tape.trans h.tape, k.output.trans h.output, Nat.le_trans h.size k.size, fun i hi hn => (k.low i hi hn).trans (h.low i hi hn), fun i o hi ho => k.stiff i o (h.stiff i o hi ho) ho⟩
theorem Soft.imp {S' : Nat → Prop} (h : Soft B S W W1) (hs : ∀ k, k < B → S k → S' k) : Soft B S' W W1 :=
  ⟨h.os, h.tape, h.output, h.size, fun i hi hn => h.low i hi (fun hS => hn (hs i hi hS)), h.stiff⟩
theorem Soft.of_below (hB : B ≤ W.heap.size) (h : Below W.heap.size W W1) : Soft B S W W1 :=
  ⟨h.os, h.tape, h.output, h.size, fun i hi _ => h.block i (by omega), fun i o hi _ => (h.block i (Array.getElem?_eq_some_iff.1 hi).1).trans hi⟩
theorem Soft.then_below (h : Soft B S W W1) (hB : B ≤ W.heap.size) (k : Below W1.heap.size W1 W2) : Soft B S W W2 := h.trans (.of_below (Nat.le_trans hB h.size) k)
theorem Soft.grown {row : Option Nat} (hB : B ≤ W.heap.size) (hg : W.grownBy W1 row) (hrow : ∀ k, row = some k → B ≤ k ∧ ∃ cells t, W.heap[k]? = some (.cells cells t (0, 0))) : Soft B S W W1 :=
  ⟨hg.os, hg.tape, hg.output, hg.size, fun i hi _ => hg.block i (by omega) (fun he => by have := (hrow i he.symm).1; omega), fun i o hi ho => (hg.block i (Array.getElem?_eq_some_iff.1 hi).1 (fun he => by
    obtain ⟨_, cells, t, hc⟩ := hrow i he.symm
    rw [hc] at hi
    obtain rfl := Option.some.inj hi
    cases ho)).trans hi⟩
theorem Soft.own {b e sz n : Nat} {v : Value} {inner : List Value} (hB : B ≤ W.heap.size) (hg : W.grownBy W1 v.ownBlock) (ho : W.ownsRow b e sz v n inner) (hb : B ≤ b) : Soft B S W W1 :=
  .grown hB hg (fun k hk => ⟨Nat.le_trans hb (own_base ho k hk), by obtain ⟨cells, hc⟩ := own_typed ho k hk; exact ⟨cells, e, hc⟩⟩)
theorem Soft.setCell (W : World) {p : Addr} (hp : S p.block ∨ B ≤ p.block) (u : Value) : Soft B S W (W.setCell p u) :=
  ⟨rfl, rfl, rfl, by simp [World.setCell], fun i hi hn => Below.heap_setCell _ _ _ _ (fun e => by rcases hp with h | h; exact hn (e ▸ h); omega), (KeepsOthers.setCell W p u).same⟩
theorem Soft.below {b : Nat} (h : Soft B S W W1) (hb : b ≤ B) (hS : ∀ k, S k → b ≤ k) : Below b W W1 :=
  ⟨h.os, h.tape, h.output, h.size, fun i hi => h.low i (by omega) (fun hs => by have := hS i hs; omega)⟩
theorem Soft.cell (h : Soft B S W W1) {a : Addr} {v : Value} (hc : W.cell? a = some v) (ha : a.block < B) (hn : ¬ S a.block) : W1.cell? a = some v :=
  (World.cell?_of_block (h.low _ ha hn)).trans hc
theorem Soft.keepsFrom (h : Soft B S W W1) (b : Nat) : KeepsFrom b W W1 := ⟨h.size, fun k o _ hk ho => h.stiff k o hk ho⟩
end

/-- The parser, and what its rows hold. -/
structure PS (P B : Nat) (W : World) (code : Bool) (first : ByteArray) (heads : Int) (name : ByteArray) (head : List Int) (blocks : List (List S72)) (vh vb : Value) : Prop where
  cells : W.heap[P]? = some (.cells #[.bool code, .string first, .int .i64 heads, .string name, vh, vb] 77 (0, 0))
  hd : (Kd.int .i64).R 3 W B (fun _ => True) vh head
  bl : BI k72 72 48 W B vb blocks
section
variable {P B : Nat} {W W1 : World} {code : Bool} {first name : ByteArray} {heads : Int} {head : List Int} {blocks : List (List S72)} {vh vb : Value}
theorem PS.below (h : PS P B W code first heads name head blocks vh vb) (hb : Below W.heap.size W W1) : PS P B W1 code first heads name head blocks vh vb :=
  ⟨(hb.block P (blk_lt h.cells)).trans h.cells, Kd.R_below h.hd hb, h.bl.below hb⟩
theorem PS.named (h : PS P B W code first heads name head [] vh (.slice none 0 0)) (t : ByteArray) : PS P B (W.setCell ⟨P, 3, none⟩ (.string t)) code first heads t head [] vh (.slice none 0 0) :=
  ⟨blk_put h.cells 3 (.string t) rfl, Kd.R_set h.hd h.cells (fun q hq => by
    rcases List.mem_cons.1 hq with rfl | hq
    · decide
    · cases hq) 3 _, .inl ⟨rfl, World.ownsRow_nil _ _ _ _⟩⟩
/-- One more number in the first line: behind the append, and its store. -/
theorem PS.headed {v1 : Value} {x : Int} (h : PS P B W code first heads name head [] vh (.slice none 0 0)) (hr : (Kd.int .i64).R 3 W1 B (fun _ => True) v1 (head ++ [x])) (hg : W.grownBy W1 vh.ownBlock) :
    PS P B (W1.setCell ⟨P, 4, none⟩ v1) code first heads name (head ++ [x]) [] v1 (.slice none 0 0) := by
  have hne : some P ≠ vh.ownBlock := Kd.R_ne h.hd h.cells (by decide)
  have hc := (hg.block P (blk_lt h.cells) hne).trans h.cells
  exact ⟨blk_put hc 4 v1 rfl, Kd.R_set hr hc (fun q hq => by
    rcases List.mem_cons.1 hq with rfl | hq
    · decide
    · cases hq) 4 _, .inl ⟨rfl, World.ownsRow_nil _ _ _ _⟩⟩
end
end Go.Proofs.YtfibkajflenekaaDoor.G
