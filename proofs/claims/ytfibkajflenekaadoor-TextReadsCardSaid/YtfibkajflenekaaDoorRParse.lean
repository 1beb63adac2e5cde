/-
  cubbyref08.parse: what it comes to, by a walk over its text. Conditions: those that stand in '.l0'.
-/
import Derived.Test.YtfibkajflenekaaDoorTails
import Derived.Test.YtfibkajflenekaaDoorPTxx1
import Derived.Test.YtfibkajflenekaaDoorPTxx2
import Derived.Test.YtfibkajflenekaaDoorPTxx4
import Derived.Deep.RegionLaw
namespace Go.Proofs.YtfibkajflenekaaDoor.G
set_option linter.unusedVariables false
set_option linter.unusedSimpArgs false
open Go.RowKit Go.Proofs.YtfibkajflenekaaDoorW.PrintWords Go.Proofs.YtfibkajflenekaaDoorW.PrintLast Go.Proofs.YtfibkajflenekaaDoorW.PrintMore Go.Proofs.YtfibkajflenekaaDoor.PTx

/-- The first line's end. -/
def nl (s : ByteArray) : Nat := s.data.toList.findIdx (· == 10)
theorem nl_le (s : ByteArray) : nl s ≤ s.size := by
  have : nl s ≤ s.data.toList.length := List.findIdx_le_length
  simpa using this
theorem byteAt {s : ByteArray} {e : Nat} (h3 : e < s.size) (h1 : e < s.data.toList.length) : ((s.data.toList[e]).toNat : Int) = bt s e := by
  have h4 : (s.data.toList[e]) = s[e]'h3 := by simp [ByteArray.getElem_eq_getElem_data]
  simp only [bt, Int.toNat_natCast, h3, dite_true, h4]
theorem nl_no (s : ByteArray) (e : Nat) (h : e < nl s) : bt s e ≠ 10 := by
  have h1 : e < s.data.toList.length := Nat.lt_of_lt_of_le h List.findIdx_le_length
  have h2 := List.not_of_lt_findIdx h
  have h3 : e < s.size := by simpa using h1
  rw [← byteAt h3 h1]
  intro hb
  have h5 : s.data.toList[e] = 10 := UInt8.toNat_inj.1 (by have : (10 : UInt8).toNat = 10 := rfl; omega)
  simp [h5] at h2
theorem nl_yes (s : ByteArray) (h : nl s < s.size) : bt s (nl s) = 10 := by
  have h1 : nl s < s.data.toList.length := by simpa using h
  have h2 : (s.data.toList[nl s] == 10) = true := List.findIdx_getElem (w := h1)
  rw [← byteAt h h1, beq_iff_eq.1 h2]; rfl

abbrev PR := Option (ByteArray × List Int × List (List S72) × Int × Int)
def wrongAt (n e : Int) : PR := some (⟨#[]⟩, [], [], n, e)
def blockW : ByteArray := ⟨#[98, 108, 111, 99, 107]⟩
theorem blockW_list : blockW.toList = [98, 108, 111, 99, 107] := by rw [ByteArray.toList_eq]; rfl
def cubbyref08_parse.l0 : Nat → ByteArray → Int → Bool → ByteArray → ByteArray → List Int → List (List S72) → Int → PR
  | 0, _, _, _, _, _, _, _, _ => none
  | k + 1, first, many, code, s, name, head, blocks, n =>
    if s.toList = [] ∧ n ≠ 0 then some (name, head, blocks, 0, 0) else
    if 0 ≤ n ∧ n < 8796093022208 ∧ s.size < 8796093022208 then
      if nl s = s.size then wrongAt (n + 1) 80 else
      (cubbyref08_words.f k (s.extract 0 (nl s))).bind fun ws =>
        if 0 < ws.length then
          if n = 0 then
            if (rdOf ByteArray.empty ws 0).toList = first.toList then
              (cubbyref08_read.f k ws many 0).bind fun t =>
                if t.2.2 = 0 then cubbyref08_parse.l0 k first many code (s.extract (nl s + 1) s.size) t.2.1 t.1 blocks (n + 1) else wrongAt (n + 1) t.2.2
            else wrongAt (n + 1) 80
          else if (rdOf ByteArray.empty ws 0).toList = blockW.toList then
            if ws.length = 1 then
              if blocks.length < 1099511627776 then cubbyref08_parse.l0 k first many code (s.extract (nl s + 1) s.size) name head (blocks ++ [[]]) (n + 1) else none
            else wrongAt (n + 1) 80
          else if blocks.length = 0 then wrongAt (n + 1) 80
          else (cubbyref08_ins.f k ws code).bind fun t =>
            if t.2.2.2.2.2.2 = 0 then
              if blocks.length < 1099511627776 ∧ (blocks.getLast?.getD []).length < 1099511627776 then cubbyref08_parse.l0 k first many code (s.extract (nl s + 1) s.size) name head (addLast blocks ⟨t.1, t.2.1, t.2.2.1, t.2.2.2.1, t.2.2.2.2.1, t.2.2.2.2.2.1⟩) (n + 1) else none
            else wrongAt (n + 1) t.2.2.2.2.2.2
        else none
    else none
def cubbyref08_parse.f (k : Nat) (a0 a1 : ByteArray) (a2 : Int) (a3 : Bool) : PR := cubbyref08_parse.l0 k a1 a2 a3 a0 ⟨#[]⟩ [] [] 0
theorem cubbyref08_parse.mono_l : ∀ k first many code s name head blocks n, LeO (cubbyref08_parse.l0 k first many code s name head blocks n) (cubbyref08_parse.l0 (k + 1) first many code s name head blocks n)
  | 0 => fun _ _ _ _ _ _ _ _ r h => by simp [cubbyref08_parse.l0] at h
  | k + 1 => by
    have ih := cubbyref08_parse.mono_l k
    intro first many code s name head blocks n
    unfold cubbyref08_parse.l0
    repeat' first
      | (with_reducible exact ih _ _ _ _ _ _ _ _)
      | (with_reducible exact cubbyref08_words.mono _ _)
      | (with_reducible exact cubbyref08_read.mono _ _ _ _)
      | (with_reducible exact cubbyref08_ins.mono _ _ _)
      | (with_reducible exact LeO.refl _)
      | (with_reducible refine LeO.ite ?_ ?_)
      | (with_reducible refine LeO.bind ?_ (fun _ => ?_))
theorem cubbyref08_parse.mono : ∀ a0 a1 a2 a3 k, LeO (cubbyref08_parse.f k a0 a1 a2 a3) (cubbyref08_parse.f (k + 1) a0 a1 a2 a3) := fun a0 a1 a2 a3 k => cubbyref08_parse.mono_l k _ _ _ _ _ _ _ _

theorem results_tmp5 {fn : Func} {t u v x y : Tmp} (h : fn.results = #[.tmp t, .tmp u, .tmp v, .tmp x, .tmp y]) (tmps : Array Value) (P : Program) (w : World) :
    (results fn tmps).run P w = .ok (.tuple #[tmps.getD t undef, tmps.getD u undef, tmps.getD v undef, tmps.getD x undef, tmps.getD y undef]) w := by
  simp [results, h, go_sem]
theorem nl_empty {s : ByteArray} (h : s.toList = []) : nl s = s.size := by
  have h1 := nl_le s
  have h2 : s.size = 0 := by rw [ByteArray.toList_eq] at h; have := congrArg List.length h; simpa using this
  omega

set_option maxHeartbeats 8000000 in
set_option maxRecDepth 100000 in
theorem cubbyref08_parse.calls (k : Nat) (a0 a1 : ByteArray) (a2 : Int) (a3 : Bool) (r1 : ByteArray) (r2 : List Int) (r3 : List (List S72)) (r4 r5 : Int) (w : World) (hG : GW w) (h : cubbyref08_parse.f k a0 a1 a2 a3 = some (r1, r2, r3, r4, r5)) :
    Calls Tryd.prog 35 #[.string a0, .string a1, .int .i64 a2, .bool a3] w fun e w' => ∃ v0_ v1_ : Value, e = .returned (.tuple #[.string r1, v0_, v1_, .int .i64 r4, .int .i64 r5]) ∧ (Kd.int .i64).R 3 w' w.heap.size (fun _ => True) v0_ r2 ∧ (Kd.slice 72 k72).R 48 w' w.heap.size (fun _ => True) v1_ r3 ∧ Below w.heap.size w w' := by
  have HG := Lib.hid hG
  have H' := Lib.hid h
  have HB := Lib.hid (Below.refl w.heap.size w)
  clear h hG
  go_enter Tryd.func35, Tryd.ntmps35
  go_wp2_with (first
    | ((with_reducible refine gate_dst (N := 25) rfl ?_); refine Kd.R_lit (Kd.int .i64) w.heap.size 3 (w0 := w) ?hg (N := 25) ?hd (xs := ([] : List Int)) (inner := []) (ok := fun _ => True) (okp := fun _ => True) ?hr ?hp (fun _ hk => hk) trivial ?hB ?hz (by simp) ?_; (case hd => rfl); (case hg => rfl); (case hr => first | (go_simp; done) | (go_simp; rfl)); (case hp => exact (Reps.none _ _)); (case hB => exact HB.out); (case hz => exact below_size HB.out); intro v14 w2 ho hb hg_ hnew_; have HO := Lib.hid ho; have n1_ := Lib.hid hb; clear HB hb ho hg_ hnew_; have HB := n1_; clear n1_)
    | ((with_reducible refine gate_dst (N := 26) rfl ?_); refine Kd.R_lit (Kd.slice 72 k72) w.heap.size 48 (w0 := w) ?hg (N := 26) ?hd (xs := ([] : List (List S72))) (inner := []) (ok := fun _ => True) (okp := fun _ => True) ?hr ?hp (fun _ hk => hk) trivial ?hB ?hz (by simp) ?_; (case hd => rfl); (case hg => rfl); (case hr => first | (go_simp; done) | (go_simp; rfl)); (case hp => exact (Reps.none _ _)); (case hB => exact HB.out); (case hz => exact below_size HB.out); intro v15 w3 ho hb hg_ hnew_; have HBI := Lib.hid (BI.of_nil ho); have n1_ := Lib.hid hb; have n2_ := Lib.hid (Kd.R_grown (by (with_reducible repeat (first | apply Kd.R_alloc | apply Kd.R_drewN | apply Kd.R_drew)); exact HO.out) hg_ (fun _ _ h => by cases h)); clear HB HO hb ho hg_ hnew_; have HB := n1_; have HO := n2_; clear n1_ n2_))
  go_loopg [0, 13, 14, 15, 16] k (fun kq v0 v13 v14 v15 v16 w' => ∃ (s name : ByteArray) (head : List Int) (blocks : List (List S72)) (n : Int), v0 = .string s ∧ v13 = .string name ∧ v16 = .int .i64 n ∧ Hid (cubbyref08_parse.l0 kq a1 a2 a3 s name head blocks n = some (r1, r2, r3, r4, r5)) ∧ Hid (kq ≤ k) ∧ Hid ((Kd.int .i64).R 3 w' w.heap.size (fun _ => True) v14 head) ∧ Hid (BI k72 72 48 w' w.heap.size v15 blocks) ∧ Hid (Below w.heap.size w w'))
  case atStart => exact ⟨a0, ⟨#[]⟩, [], [], 0, rfl, rfl, rfl, H', Lib.hid (Nat.le_refl _), HO, HBI, HB⟩
  case round =>
    clear H' HO HBI HB
    obtain ⟨s, name, head, blocks, n, rfl, rfl, rfl, HA, HK, HO, HBI, HB⟩ := hrel
    cases gk with
    | zero => exact absurd HA.out (by simp [cubbyref08_parse.l0])
    | succ k1 =>
      have H := HA.out
      clear HA
      simp only [cubbyref08_parse.l0] at H
      by_cases c1 : s.toList = [] ∧ n ≠ 0
      · rw [if_pos c1] at H
        simp only [Option.some.injEq, Prod.mk.injEq] at H
        obtain ⟨rfl, rfl, rfl, rfl, rfl⟩ := H
        obtain ⟨c2, c3⟩ := c1
        have c2a : (s.toList == ([] : List UInt8)) = true := beq_iff_eq.mpr c2
        have c2b : (s.toList != ([] : List UInt8)) = false := bne_eq_false_iff_eq.mpr c2
        have c3a : (n == 0) = false := beq_eq_false_iff_ne.mpr c3
        clear c2 c3
        go_wp2
        (try simp only [Exit.inBlock, Exit.then])
        refine bodyPost_ret (results_tmp5 rfl _ _ _) rfl ?_
        exact ⟨u14, u15, rfl, HO.out, HBI.out.R, HB.out⟩
      · rw [if_neg c1] at H
        by_cases c2 : 0 ≤ n ∧ n < 8796093022208 ∧ s.size < 8796093022208
        · rw [if_pos c2] at H
          obtain ⟨hn0, hn1, hs1⟩ := c2
          by_cases cs : s.toList = []
          · obtain rfl : n = 0 := Classical.byContradiction fun h2 => c1 ⟨cs, h2⟩
            rw [if_pos (nl_empty cs)] at H
            simp only [wrongAt, Option.some.injEq, Prod.mk.injEq] at H
            obtain ⟨rfl, rfl, rfl, rfl, rfl⟩ := H
            have hz : s.size = 0 := by have := nl_le s; rw [ByteArray.toList_eq] at cs; have := congrArg List.length cs; simpa using this
            have c2a : (s.toList == ([] : List UInt8)) = true := beq_iff_eq.mpr cs
            have c2b : (s.toList != ([] : List UInt8)) = false := bne_eq_false_iff_eq.mpr cs
            clear c1 cs
            go_wp2
            go_loopg [17] 0 (fun kq v17 w' => v17 = .int .i64 0 ∧ Hid (Below w.heap.size w w'))
            case atStart => exact ⟨rfl, HB⟩
            case round =>
              clear HB
              obtain ⟨rfl, HB⟩ := hrel
              go_wp2
              (try simp only [Exit.inBlock, Exit.then])
              refine bodyPost_ret (results_tmp5 rfl _ _ _) rfl ?_
              exact ⟨_, _, rfl, Kd.R_nil _ _ _ _ _, Kd.R_nil _ _ _ _ _, HB.out⟩
          · have c2a : (s.toList == ([] : List UInt8)) = false := beq_eq_false_iff_ne.mpr cs
            have c2b : (s.toList != ([] : List UInt8)) = true := bne_iff_ne.mpr cs
            have hH := Lib.hid H
            clear H c1 cs
            have hle := nl_le s
            have Hno := Lib.hid (nl_no s)
            have Hyes := Lib.hid (nl_yes s)
            generalize hnl : nl s = en at *
            clear hnl
            go_wp2
            go_loopg [17] en (fun kq v17 w' => ∃ e : Nat, v17 = .int .i64 e ∧ Hid (kq + e = en) ∧ Hid ((Kd.int .i64).R 3 w' w.heap.size (fun _ => True) u14 head) ∧ Hid (BI k72 72 48 w' w.heap.size u15 blocks) ∧ Hid (Below w.heap.size w w'))
            case atStart => exact ⟨0, rfl, Lib.hid (by omega), HO, HBI, HB⟩
            case round =>
              clear HB HBI HO
              obtain ⟨e, rfl, He, HO, HBI, HB⟩ := hrel
              by_cases hlt : e < en
              · have q1 : decide ((e : Int) < s.size) = true := decide_eq_true (by omega)
                have q2 : ((e : Int) < s.size) = True := eq_true (by omega)
                have q2b : (e < s.size) = True := eq_true (by omega)
                have q3 : ∀ h : e < s.size, ((s[e]'h).toNat : Int) = bt s e := fun h => by simp [bt, h]
                have q4 : (bt s e == 10) = false := beq_eq_false_iff_ne.mpr (Hno.out e hlt)
                have q5 : (bt s e != 10) = true := bne_iff_ne.mpr (Hno.out e hlt)
                cases gk with
                | zero => exfalso; have := He.out; omega
                | succ k2 =>
                go_wp2
                go_roundg k2
                case measure => omega
                case rel => exact ⟨e + 1, by go_num, Lib.hid (by have := He.out; omega), HO, HBI, HB⟩
              · obtain rfl : e = en := by have := He.out; omega
                by_cases hsz : e = s.size
                · have H := hH.out
                  rw [if_pos hsz] at H
                  simp only [wrongAt, Option.some.injEq, Prod.mk.injEq] at H
                  obtain ⟨rfl, rfl, rfl, rfl, rfl⟩ := H
                  have q1 : decide ((e : Int) < s.size) = false := decide_eq_false (by omega)
                  have q2 : ((e : Int) == s.size) = true := beq_iff_eq.mpr (by omega)
                  go_wp2
                  (try simp only [Exit.inBlock, Exit.then])
                  refine bodyPost_ret (results_tmp5 rfl _ _ _) rfl ?_
                  exact ⟨_, _, rfl, Kd.R_nil _ _ _ _ _, Kd.R_nil _ _ _ _ _, HB.out⟩
                · have H := hH.out
                  rw [if_neg hsz] at H
                  obtain ⟨ws, A1, H⟩ := Option.bind_eq_some_iff.mp H
                  have hsz1 : e < s.size := by omega
                  have q1 : decide ((e : Int) < s.size) = true := decide_eq_true (by omega)
                  have q1b : ((e : Int) == s.size) = false := beq_eq_false_iff_ne.mpr (by omega)
                  have q2 : ((e : Int) < s.size) = True := eq_true (by omega)
                  have q2b : (e < s.size) = True := eq_true (by omega)
                  have q2c : (e ≤ s.size) = True := eq_true (by omega)
                  have q2d : (e + 1 ≤ s.size) = True := eq_true (by omega)
                  have q3 : ∀ h : e < s.size, ((s[e]'h).toNat : Int) = bt s e := fun h => by simp [bt, h]
                  have q4 : (bt s e == 10) = true := beq_iff_eq.mpr (Hyes.out hsz1)
                  have q5 : (bt s e != 10) = false := bne_eq_false_iff_eq.mpr (Hyes.out hsz1)
                  have HA := Lib.hid (fun W hW => cubbyref08_words.calls k1 (s.extract 0 e) ws W hW A1)
                  have hH' := Lib.hid H
                  clear hH Hno Hyes H A1 hlt hsz
                  go_wp2_with fail
                  refine (HA.out _ (GW_below HG.out HB.out)).mono ?_
                  rintro e1 w4 ⟨v18, rfl, ho, hb⟩
                  have n1_ := Lib.hid (Kd.R_below HO.out hb)
                  have n2_ := Lib.hid (HBI.out.below hb)
                  have n3_ := Lib.hid (below_step HB.out hb)
                  have HW := Lib.hid ho
                  clear HO HBI HB ho hb HA
                  have HO := n1_
                  have HBI := n2_
                  have HB := n3_
                  clear n1_ n2_ n3_
                  obtain ⟨A0, c0, rfl, hc0, hC⟩ := Kd.R_reads HW.out
                  have H := hH'.out
                  by_cases hpos : 0 < ws.length
                  · rw [if_pos hpos] at H
                    obtain ⟨ad, rfl, hcell⟩ := Kd.at_string hC 0 (by omega) (by omega)
                    have HC := Lib.hid hC
                    have p1 : ((0 : Int) < ws.length) = True := eq_true (by omega)
                    have p1b : (0 < ws.length) = True := eq_true hpos
                    have p1c : decide ((0 : Int) < ws.length) = true := decide_eq_true (by omega)
                    have hGW := Lib.hid (GW_below HG.out HB.out)
                    clear hC hH' hpos
                    rw [show ((0 : Int)).toNat = 0 from rfl, Addr.add_zero'] at hcell
                    by_cases hn : n = 0
                    · subst hn
                      rw [if_pos rfl] at H
                      by_cases hw : (rdOf ByteArray.empty ws 0).toList = a1.toList
                      · rw [if_pos hw] at H
                        have hwb : ((rdOf ByteArray.empty ws 0).toList != a1.toList) = false := bne_eq_false_iff_eq.mpr hw
                        have hwb2 : ((rdOf ByteArray.empty ws 0).toList == a1.toList) = true := beq_iff_eq.mpr hw
                        obtain ⟨⟨t1, t2, t3⟩, A2, H⟩ := Option.bind_eq_some_iff.mp H
                        have HA := Lib.hid (fun W hW hr => cubbyref08_read.calls k1 (some ad) c0 ws a2 0 t1 t2 t3 W hW hr hc0 A2)
                        have hH2 := Lib.hid H
                        clear H A2
                        go_wp2_with fail
                        refine (HA.out _ hGW.out HC.out).mono ?_
                        rintro e1 w5 ⟨v19, rfl, ho, hb⟩
                        have n1_ := Lib.hid (Kd.R_lower ho (below_size HB.out))
                        have n2_ := Lib.hid (HBI.out.below hb)
                        have n3_ := Lib.hid (below_step HB.out hb)
                        clear HO HBI HB ho hb HA
                        have HO := n1_
                        have HBI := n2_
                        have HB := n3_
                        clear n1_ n2_ n3_
                        have H := hH2.out
                        clear hH2
                        by_cases ht : t3 = 0
                        · rw [if_pos ht] at H
                          have htb : (t3 != 0) = false := bne_eq_false_iff_eq.mpr ht
                          have H' := Lib.hid H
                          clear H
                          go_wp2
                          go_roundg k1
                          case measure => omega
                          case rel => exact ⟨_, _, _, _, _, rfl, rfl, rfl, H', Lib.hid (by have := HK.out; omega), HO, HBI, HB⟩
                        · rw [if_neg ht] at H
                          have htb : (t3 != 0) = true := bne_iff_ne.mpr ht
                          simp only [wrongAt, Option.some.injEq, Prod.mk.injEq] at H
                          obtain ⟨rfl, rfl, rfl, rfl, rfl⟩ := H
                          go_wp2
                          (try simp only [Exit.inBlock, Exit.then])
                          refine bodyPost_ret (results_tmp5 rfl _ _ _) rfl ?_
                          exact ⟨_, _, rfl, Kd.R_nil _ _ _ _ _, Kd.R_nil _ _ _ _ _, HB.out⟩
                      · rw [if_neg hw] at H
                        have hwb : ((rdOf ByteArray.empty ws 0).toList != a1.toList) = true := bne_iff_ne.mpr hw
                        have hwb2 : ((rdOf ByteArray.empty ws 0).toList == a1.toList) = false := beq_eq_false_iff_ne.mpr hw
                        simp only [wrongAt, Option.some.injEq, Prod.mk.injEq] at H
                        obtain ⟨rfl, rfl, rfl, rfl, rfl⟩ := H
                        go_wp2
                        (try simp only [Exit.inBlock, Exit.then])
                        refine bodyPost_ret (results_tmp5 rfl _ _ _) rfl ?_
                        exact ⟨_, _, rfl, Kd.R_nil _ _ _ _ _, Kd.R_nil _ _ _ _ _, HB.out⟩
                    · rw [if_neg hn] at H
                      have hnb : (n + 1 == 1) = false := beq_eq_false_iff_ne.mpr (by omega)
                      by_cases hw : (rdOf ByteArray.empty ws 0).toList = blockW.toList
                      · rw [if_pos hw] at H
                        have hwb : ((rdOf ByteArray.empty ws 0).toList == ([98, 108, 111, 99, 107] : List UInt8)) = true := beq_iff_eq.mpr (hw.trans blockW_list)
                        clear hw
                        by_cases hl : ws.length = 1
                        · rw [if_pos hl] at H
                          have hlb : ((ws.length : Int) != 1) = false := bne_eq_false_iff_eq.mpr (by omega)
                          by_cases hbl : blocks.length < 1099511627776
                          · rw [if_pos hbl] at H
                            have H' := Lib.hid H
                            clear H
                            obtain ⟨inner, hin⟩ := HBI.out.own
                            have HI := Lib.hid hin
                            clear hin
                            go_wp2_with (first
                              | ((with_reducible refine gate_dst (N := 119) rfl ?_); refine Kd.R_lit k72 w.heap.size 72 (w0 := w) ?hg (N := 119) ?hd (xs := ([] : List S72)) (inner := []) (ok := fun k => w4.heap.size ≤ k) (okp := fun k => w4.heap.size ≤ k) ?hr ?hp (fun _ hk => hk) (Nat.le_refl _) ?hB ?hz (by simp) ?_; (case hd => rfl); (case hg => rfl); (case hr => first | (go_simp; done) | (go_simp; rfl)); (case hp => exact (Reps.none _ _)); (case hB => exact HB.out); (case hz => exact below_size HB.out); intro v119 w5 ho hb hg_ hnew_; obtain ⟨A119, c119, e119⟩ := Kd.R_slice ho; subst e119; have hb0 := below_none hg_; have n0_ := Lib.hid hb0; have n1_ := Lib.hid hb; have n2_ := Lib.hid (Kd.R_below HO.out hb0); have n4_ := Lib.hid ho; clear HB HO hb ho hg_ hnew_ hb0; have HB := n1_; have HO := n2_; have HU := n4_; have HB0 := n0_; clear n0_ n1_ n2_ n4_)
                              | ((with_reducible refine gate_builtin (b := .append) (xs := #[.tmp 118, .tmp 120]) rfl ?_); at_builtin; refine print_append_cells (w0 := w) w.heap.size rfl (.tmp 118) (.tmp 120) 41 48 (.slice none 0 0) 1 24 rfl Tryd.underlying41 infoS rfl (by decide) (by omega) u15 blocks.length inner [.slice A119 0 c119] rfl rfl rfl ?aO ?aH ?aB ?aS ?aL ?_; (case aO => simp [Value.oneCell']); (case aH => exact pw_own_below HI.out HB0.out); (case aB => exact HB.out); (case aS => exact below_size HB.out); (case aL => omega); intro v15n w6 ho hb hg hat; have n0_ := Lib.hid hb; have n1_ := Lib.hid (int_push HO.out (pw_own_below HI.out HB0.out) (by decide) hg); have n2_ := Lib.hid (HBI.out.push HI.out HB0.out HU.out ho hg hat); clear HB HO ho hb hg hat; have HB := n0_; have HO := n1_; have HBI2 := n2_; clear n0_ n1_ n2_))
                            go_roundg k1
                            case measure => omega
                            case rel => exact ⟨_, _, _, _, _, rfl, rfl, rfl, H', Lib.hid (by have := HK.out; omega), HO, HBI2, HB⟩
                          · rw [if_neg hbl] at H
                            cases H
                        · rw [if_neg hl] at H
                          have hlb : ((ws.length : Int) != 1) = true := bne_iff_ne.mpr (by omega)
                          simp only [wrongAt, Option.some.injEq, Prod.mk.injEq] at H
                          obtain ⟨rfl, rfl, rfl, rfl, rfl⟩ := H
                          go_wp2
                          (try simp only [Exit.inBlock, Exit.then])
                          refine bodyPost_ret (results_tmp5 rfl _ _ _) rfl ?_
                          exact ⟨_, _, rfl, Kd.R_nil _ _ _ _ _, Kd.R_nil _ _ _ _ _, HB.out⟩
                      · rw [if_neg hw] at H
                        have hwb : ((rdOf ByteArray.empty ws 0).toList == ([98, 108, 111, 99, 107] : List UInt8)) = false := beq_eq_false_iff_ne.mpr (fun h => hw (h.trans blockW_list.symm))
                        clear hw
                        by_cases hbl : blocks.length = 0
                        · rw [if_pos hbl] at H
                          obtain ⟨A15, c15, hv15⟩ := HBI.out.form
                          subst hv15
                          have hlb : ((blocks.length : Int) == 0) = true := beq_iff_eq.mpr (by omega)
                          simp only [wrongAt, Option.some.injEq, Prod.mk.injEq] at H
                          obtain ⟨rfl, rfl, rfl, rfl, rfl⟩ := H
                          go_wp2
                          (try simp only [Exit.inBlock, Exit.then])
                          refine bodyPost_ret (results_tmp5 rfl _ _ _) rfl ?_
                          exact ⟨_, _, rfl, Kd.R_nil _ _ _ _ _, Kd.R_nil _ _ _ _ _, HB.out⟩
                        · rw [if_neg hbl] at H
                          rcases HBI.out with ⟨h0, _⟩ | ⟨ini, xl, vs, uu, N, hbe, hT⟩
                          · exact absurd (by rw [h0]; rfl) hbl
                          subst hbe
                          obtain ⟨g, c15, hv, hcu, hfu, hgb, hgc, hcap⟩ := hT.form
                          obtain ⟨m, hm⟩ : ∃ m, ini.length = m := ⟨_, rfl⟩
                          have hm1 : (ini ++ [xl]).length = m + 1 := by rw [List.length_append, hm]; rfl
                          rw [hm] at hv hcu hfu
                          subst hv
                          rw [hm1] at H
                          have hlb : (((m + 1 : Nat) : Int) == 0) = false := beq_eq_false_iff_ne.mpr (by omega)
                          have hlb2 : ((m : Int) + 1 == 0) = false := beq_eq_false_iff_ne.mpr (by omega)
                          obtain ⟨⟨t1, t2, t3, t4, t5, t6, t7⟩, A2, H⟩ := Option.bind_eq_some_iff.mp H
                          have HA := Lib.hid (fun W hW hr => cubbyref08_ins.calls k1 (some ad) c0 ws a3 t1 t2 t3 t4 t5 t6 t7 W hW hr hc0 A2)
                          have hH2 := Lib.hid H
                          have HT := Lib.hid hT
                          have Hm := Lib.hid hm
                          have Hcu := Lib.hid hcu
                          have Hfu := Lib.hid hfu
                          have Hgc := Lib.hid hgc
                          clear H A2 hT hbl HBI hcu hfu hm hgc
                          go_wp2_with fail
                          refine (HA.out _ hGW.out HC.out).mono ?_
                          rintro e1 w5 ⟨v22, rfl, ho, hb⟩
                          have n1_ := Lib.hid (Kd.R_below HO.out hb)
                          have n3_ := Lib.hid (below_step HB.out hb)
                          have HS4 := Lib.hid (below_size HB.out)
                          have HX := Lib.hid ho
                          have Hb5 := Lib.hid hb
                          clear HO HB ho hb HA
                          have HO := n1_
                          have HB := n3_
                          clear n1_ n3_
                          have H := hH2.out
                          clear hH2
                          obtain ⟨A22, c22, e22⟩ := Kd.R_slice HX.out
                          subst e22
                          by_cases ht : t7 = 0
                          · rw [if_pos ht] at H
                            have htb : (t7 != 0) = false := bne_eq_false_iff_eq.mpr ht
                            by_cases hlast : m + 1 < 1099511627776 ∧ ((ini ++ [xl]).getLast?.getD []).length < 1099511627776
                            · rw [if_pos hlast] at H
                              obtain ⟨hlm, hlx⟩ := hlast
                              have hlx2 : xl.length < 1099511627776 := by simpa using hlx
                              have H' := Lib.hid H
                              clear H hlx
                              go_wp2_with fail
                              obtain ⟨Au, cu, hue⟩ := Kd.R_slice HT.out.last
                              subst hue
                              have hb6 := below_alloc (Below.refl w5.heap.size w5) (.cells #[.int .i64 t1, .int .i64 t2, .int .i64 t3, .int .i64 t4, .string t5, .slice A22 t6.length c22] 72)
                              have hbl := blk_new w5 (.cells #[.int .i64 t1, .int .i64 t2, .int .i64 t3, .int .i64 t4, .string t5, .slice A22 t6.length c22] 72)
                              have hb4 := below_step Hb5.out hb6
                              have hbW := below_drew (below_step HB.out hb6)
                              have hoW := Kd.R_drew (Kd.R_below HO.out hb6)
                              have hsW := below_size hbW
                              have hrd := HT.out.ready (p := ⟨t1, t2, t3, t4, t5, t6⟩) (below_drew hb4) HS4.out (Kd.R_drew (Kd.R_below HX.out hb6))
                              have hTW := HT.out.below (below_drew hb4)
                              have hcW := pw_cell_below hb4 Hcu.out
                              have hfW : (w5.alloc (.cells #[.int .i64 t1, .int .i64 t2, .int .i64 t3, .int .i64 t4, .string t5, .slice A22 t6.length c22] 72)).frozen? ⟨g, m, none⟩ = false := by
                                obtain ⟨cells, hc⟩ := Hgc.out
                                exact (World.frozen?_of_block (hb4.block g (blk_lt hc))).trans Hfu.out
                              have hug := HT.out.ne.1
                              have hub : some w5.heap.size ≠ (Value.slice Au xl.length cu).ownBlock := fun he => by have := HT.out.ne.2 _ he.symm; have := Hb5.out.size; omega
                              have hgW : g < (w5.alloc (.cells #[.int .i64 t1, .int .i64 t2, .int .i64 t3, .int .i64 t4, .string t5, .slice A22 t6.length c22] 72)).heap.size := by
                                obtain ⟨cells, hc⟩ := Hgc.out
                                exact Nat.lt_of_lt_of_le (blk_lt hc) hb4.size
                              have hgn : w5.heap.size ≠ g := fun he => by
                                obtain ⟨cells, hc⟩ := Hgc.out
                                have := blk_lt hc
                                have := Hb5.out.size
                                omega
                              generalize w5.alloc _ = W at *
                              generalize w5.heap.size = gb at *
                              have k0 : W.cell? ⟨gb, 0, none⟩ = some (.int .i64 t1) := (blk_cell hbl 0).trans rfl
                              have k1' : W.cell? ⟨gb, 1, none⟩ = some (.int .i64 t2) := (blk_cell hbl 1).trans rfl
                              have k2' : W.cell? ⟨gb, 2, none⟩ = some (.int .i64 t3) := (blk_cell hbl 2).trans rfl
                              have k3' : W.cell? ⟨gb, 3, none⟩ = some (.int .i64 t4) := (blk_cell hbl 3).trans rfl
                              have k4' : W.cell? ⟨gb, 4, none⟩ = some (.string t5) := (blk_cell hbl 4).trans rfl
                              have k5' : W.cell? ⟨gb, 5, none⟩ = some (.slice A22 t6.length c22) := (blk_cell hbl 5).trans rfl
                              have HRD := Lib.hid hrd
                              have HTW := Lib.hid hTW
                              have HOW := Lib.hid hoW
                              have HBW := Lib.hid hbW
                              have HSW := Lib.hid hsW
                              clear hb6 hbl hb4 hsW hbW hoW hrd hTW HO HB HT HX Hb5 Hgc
                              have hmm : ((m : Int) < (m : Int) + 1) = True := eq_true (by omega)
                              go_region_law
                                ((refine Kd.R_append_step k72 (w0 := w) w.heap.size (by rfl) (.tmp 82) (.tmp 84) 48 72 (.agg #[.int .i64 0, .int .i64 0, .int .i64 0, .int .i64 0, .string ⟨#[]⟩, .slice none 0 0]) 72 rfl Tryd.underlying48 info72 rfl (by decide) (by omega) (.slice Au xl.length cu) xl ⟨t1, t2, t3, t4, t5, t6⟩ _ _ _ (by simp [Act.eval, Act.put]) (by simp [Act.eval, Act.put]) HRD.out.1 HRD.out.2.1 HRD.out.2.2 HTW.out.last HBW.out HSW.out (by omega) ?_; intro u1 w1 hu hb1 hg1 hat1; obtain ⟨A1', c1', e1'⟩ := Kd.R_slice hu; rw [List.length_append, List.length_singleton] at e1'; subst e1'; have hf1 := (World.frozen?_of_block (hg1.block g hgW hug)).trans hfW; have hc1 : w1.cell? ⟨g, m, none⟩ = some (.slice Au xl.length cu) := hg1.cell hcW hug; have HU := Lib.hid hu; have HB1 := Lib.hid hb1; have HG1 := Lib.hid hg1; clear hu hb1 hat1))
                              all_goals
                                have hfin := HTW.out.done Hm.out HU.out HG1.out HB1.out HOW.out hgb
                                have HF := Lib.hid hfin
                                clear hfin
                                go_wp2
                                go_roundg k1
                                case measure => omega
                                case rel => exact ⟨_, _, _, _, _, rfl, rfl, rfl, H', Lib.hid (by have := HK.out; omega), Lib.hid HF.out.2.1, Lib.hid HF.out.1, Lib.hid HF.out.2.2⟩
                            · rw [if_neg hlast] at H
                              cases H
                          · rw [if_neg ht] at H
                            have htb : (t7 != 0) = true := bne_iff_ne.mpr ht
                            simp only [wrongAt, Option.some.injEq, Prod.mk.injEq] at H
                            obtain ⟨rfl, rfl, rfl, rfl, rfl⟩ := H
                            go_wp2_with fail
                            (try simp only [Exit.inBlock, Exit.then])
                            refine bodyPost_ret (results_tmp5 rfl _ _ _) rfl ?_
                            exact ⟨_, _, rfl, Kd.R_nil _ _ _ _ _, Kd.R_nil _ _ _ _ _, below_alloc HB.out _⟩
                  · rw [if_neg hpos] at H
                    cases H
        · rw [if_neg c2] at H
          cases H
end Go.Proofs.YtfibkajflenekaaDoor.G
