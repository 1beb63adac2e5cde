/-
  A line's instruction: what the reference reads is what the program reads. No program in sight: the printed functions alone; texts of at most 4096 bytes.
-/
import Derived.Test.YtfibkajflenekaaDoorPureNum
import Derived.Test.YtfibkajflenekaaDoorPTxx4
import Derived.Test.YtfibkajflenekaaDoorTParse
namespace Go.Proofs.YtfibkajflenekaaDoor.G
set_option linter.unusedVariables false
set_option linter.unusedSimpArgs false
open Go.RowKit Go.Proofs.YtfibkajflenekaaDoorW.PrintWords Go.Proofs.YtfibkajflenekaaDoorW.PrintLast Go.Proofs.YtfibkajflenekaaDoor.PTx

/-! ### read -/
def readG (nm : ByteArray → Bool) : Nat → Int → List ByteArray → List Int → ByteArray → List Int × ByteArray × Int
  | _, _, [], out, s => (out, s, 0)
  | i, name, t :: r, out, s =>
    if (i : Int) = name then (if nm t = true then readG nm (i + 1) name r out t else ([], ⟨#[]⟩, 80))
    else match num t with
      | none => ([], ⟨#[]⟩, 81)
      | some v => readG nm (i + 1) name r (out ++ [v]) s
theorem rdW {ws : List ByteArray} {i : Nat} {t : ByteArray} {r : List ByteArray} (h : ws.drop i = t :: r) : rdOf ByteArray.empty ws (i : Int) = t := by
  have h1 : ws[i]? = some t := by rw [← List.head?_drop, h]; rfl
  unfold rdOf
  rw [Int.toNat_natCast, List.getD_eq_getElem?_getD, h1]
  rfl
theorem read_from (ws : List ByteArray) (many : Nat) (name : Int) (hl : ws.length = many + 1) (hm : many ≤ 5000) (hsz : ∀ t ∈ ws, t.size ≤ 4096) : ∀ (d i : Nat) (out : List Int) (s : ByteArray), i + d = many → out.length ≤ i →
    Ev (fun k => cubbyref08_read.l0 k ws (many : Int) name out s (i : Int)) (readG nmL i name (ws.drop (i + 1)) out s)
  | 0, i, out, s, hd, ho => by
    rw [List.drop_eq_nil_of_le (by omega), readG]
    exact Ev.step (f := fun _ => some (out, s, 0)) (fun k => by simp only [cubbyref08_read.l0]; rw [if_neg (by omega)]) (Ev.now _)
  | d + 1, i, out, s, hd, ho => by
    have hlt : i + 1 < ws.length := by omega
    have hdrop := List.drop_eq_getElem_cons hlt
    have hwr : wrap64 ((i : Int) + 1) = ((i + 1 : Nat) : Int) := by rw [w64 (by omega) (by omega)]; omega
    have hts := hsz _ (List.getElem_mem hlt)
    generalize ws[i + 1] = t at hdrop hts
    have hrd := rdW hdrop
    rw [hdrop, readG]
    by_cases hn : (i : Int) = name
    · rw [if_pos hn]
      have hN := refName t hts
      by_cases hb : isName (L t) = true
      · rw [if_pos (show nmL t = true from hb)]
        rw [hb] at hN
        have ih := read_from ws many name hl hm hsz d (i + 1) out t (by omega) (by omega)
        refine Ev.step (f := fun k => (cubbyref07_Name.f k t).bind fun b => if b = true then cubbyref08_read.l0 k ws many name out t ((i + 1 : Nat) : Int) else some ([], ⟨#[]⟩, 80)) (fun k => ?_) (Ev.bind hN ?_)
        · simp only [cubbyref08_read.l0]
          rw [if_pos (by omega), if_pos hn, hwr, if_pos (by omega), if_pos (by omega), hrd]
        · simp only [if_pos]
          exact ih
      · rw [if_neg (show ¬ nmL t = true from hb)]
        rw [show isName (L t) = false by simpa using hb] at hN
        refine Ev.step (f := fun k => (cubbyref07_Name.f k t).bind fun b => if b = true then cubbyref08_read.l0 k ws many name out t ((i + 1 : Nat) : Int) else some ([], ⟨#[]⟩, 80)) (fun k => ?_) (Ev.bind hN ?_)
        · simp only [cubbyref08_read.l0]
          rw [if_pos (by omega), if_pos hn, hwr, if_pos (by omega), if_pos (by omega), hrd]
        · simp only [Bool.false_eq_true, if_false]
          exact Ev.now _
    · rw [if_neg hn]
      obtain ⟨r, hr, h1, h2⟩ := refNumber t
      have hstep : ∀ k, cubbyref08_read.l0 (k + 1) ws many name out s (i : Int) = (cubbyref08_Number.f k t).bind fun b => if b.2 = true then (if out.length < 17592186044416 then cubbyref08_read.l0 k ws many name (out ++ [b.1]) s ((i + 1 : Nat) : Int) else none) else some ([], ⟨#[]⟩, 81) := fun k => by
        simp only [cubbyref08_read.l0]
        rw [if_pos (by omega), if_neg hn, hwr, if_pos (by omega), if_pos (by omega), hrd]
      cases hx : num t with
      | none =>
        refine Ev.step hstep (Ev.bind hr ?_)
        simp only [h2 hx, Bool.false_eq_true, if_false]
        exact Ev.now _
      | some v =>
        have ih := read_from ws many name hl hm hsz d (i + 1) (out ++ [v]) s (by omega) (by simp; omega)
        refine Ev.step hstep (Ev.bind hr ?_)
        rw [h1 v hx]
        simp only [if_pos]
        exact Ev.congr (fun k => by rw [if_pos (by omega)]) ih
/-- read, of a line's words. -/
def readR (ws : List ByteArray) (many : Nat) (name : Int) : List Int × ByteArray × Int := if ws.length = many + 1 then readG nmL 0 name (ws.drop 1) [] ⟨#[]⟩ else ([], ⟨#[]⟩, 80)
theorem read_ev (ws : List ByteArray) (many : Nat) (name : Int) (hm : many ≤ 5000) (hsz : ∀ t ∈ ws, t.size ≤ 4096) : Ev (fun k => cubbyref08_read.f k ws (many : Int) name) (readR ws many name) := by
  unfold readR cubbyref08_read.f
  have hw : wrap64 ((many : Int) + 1) = ((many + 1 : Nat) : Int) := by rw [w64 (by omega) (by omega)]; omega
  by_cases hl : ws.length = many + 1
  · rw [if_pos hl]
    have := read_from ws many name hl hm hsz many 0 [] ⟨#[]⟩ (by omega) (Nat.le_refl _)
    exact Ev.congr (fun k => by rw [if_pos (by rw [hw]; omega)]; rfl) this
  · rw [if_neg hl]
    exact Ev.congr (f := fun _ => some ([], ⟨#[]⟩, 80)) (fun k => by rw [if_neg (by rw [hw]; omega)]) (Ev.now _)
theorem readG_nums (nm : ByteArray → Bool) (name : Int) : ∀ (r : List ByteArray) (i : Nat) (out : List Int) (s : ByteArray), name < (i : Int) → readG nm i name r out s = match nums r with | none => ([], ⟨#[]⟩, 81) | some l => (out ++ l, s, 0)
  | [], i, out, s, h => by simp [readG, nums]
  | t :: r, i, out, s, h => by
    rw [readG, if_neg (by omega), nums]
    cases hx : num t with
    | none => rfl
    | some v =>
      simp only [Option.bind_some]
      rw [readG_nums nm name r (i + 1) (out ++ [v]) s (by omega)]
      cases hy : nums r with
      | none => rfl
      | some l => simp

/-! ### ins -/
/-- An instruction's fields, of the numbers and the name that were read. -/
def asg (code : Bool) (o : Nat) (l : List Int) (s : ByteArray) : S72 :=
  if o ∈ [3, 4, 5, 6, 7] then ⟨o, rd l 0, rd l 1, rd l 2, s, []⟩ else if o = 9 then ⟨o, 0, rd l 0, rd l 1, s, []⟩ else if o ∈ [10, 12, 14] then ⟨o, 0, rd l 0, 0, s, []⟩ else if o = 13 then ⟨o, rd l 2, rd l 0, rd l 1, s, []⟩ else
  if o = 11 then (if code = true then ⟨o, rd l 0, rd l 1, 0, s, []⟩ else ⟨o, rd l 0, 0, 0, s, l.drop 1⟩) else ⟨o, rd l 0, rd l 1, 0, s, []⟩
def cnt (code : Bool) (o : Nat) : Nat := if o ∈ [3, 4, 5, 6, 7, 13] then 3 else if o ∈ [10, 12, 14] then 1 else if o = 11 ∧ code = false then 1 else 2
abbrev InsT := Int × Int × Int × Int × ByteArray × List Int × Int
def tup (x : S72) : InsT := (x.f0, x.f1, x.f2, x.f3, x.f4, x.f5, 0)
def opsL : List Nat := [1, 2, 3, 4, 5, 6, 7, 8, 9, 10, 11, 12, 13, 14, 21, 22]
theorem j1_ev (code : Bool) (o : Nat) (ho : o ∈ opsL) (ws : List ByteArray) (many : Nat) (name : Int) (r : List Int × ByteArray × Int) (hr : Ev (fun k => cubbyref08_read.f k ws (many : Int) name) r) (hl : r.2.2 = 0 → cnt code o ≤ r.1.length) (hb : r.1.length ≤ 5000) :
    Ev (fun k => cubbyref08_ins.j1 k ws code o many name o 0 0 0 ⟨#[]⟩) (if r.2.2 = 0 then tup (asg code o r.1 r.2.1) else (0, 0, 0, 0, ⟨#[]⟩, [], r.2.2)) := by
  refine Ev.step (f := fun k => (cubbyref08_read.f k ws (many : Int) name).bind fun b => if b.2.2 = 0 then (if (o : Int) = 3 then cubbyref08_ins.j2 k code b.1 o ((o : Int) == 3) o 0 0 0 b.2.1 else (if (o : Int) = 4 then cubbyref08_ins.j2 k code b.1 o ((o : Int) == 4) o 0 0 0 b.2.1 else (if (o : Int) = 5 then cubbyref08_ins.j2 k code b.1 o ((o : Int) == 5) o 0 0 0 b.2.1 else (if (o : Int) = 6 then cubbyref08_ins.j2 k code b.1 o ((o : Int) == 6) o 0 0 0 b.2.1 else cubbyref08_ins.j2 k code b.1 o ((o : Int) == 7) o 0 0 0 b.2.1)))) else some (0, 0, 0, 0, ⟨#[]⟩, [], b.2.2)) (fun k => by simp only [cubbyref08_ins.j1]) (Ev.bind hr ?_)
  obtain ⟨l, s, e⟩ := r
  by_cases he : e = 0
  · subst he
    have hlen := hl rfl
    simp only [if_true]
    refine ⟨5, fun k hk => ?_⟩
    obtain ⟨k, rfl⟩ : ∃ m, k = m + 2 := ⟨k - 2, by omega⟩
    have hb : l.length ≤ 5000 := hb
    unfold opsL at ho
    simp only [List.mem_cons, List.not_mem_nil, or_false] at ho
    rcases ho with rfl | rfl | rfl | rfl | rfl | rfl | rfl | rfl | rfl | rfl | rfl | rfl | rfl | rfl | rfl | rfl
    · have h1 : 2 ≤ l.length := hlen
      have p0 : (0 : Int) < l.length := by omega
      have p9 : ¬ l = [] := fun e => by rw [e] at p0; simp at p0
      have p1 : (1 : Int) < l.length := by omega
      simp [cubbyref08_ins.j2, cubbyref08_ins.j3, asg, tup, p0, p9, p1]
    · have h2 : 2 ≤ l.length := hlen
      have p0 : (0 : Int) < l.length := by omega
      have p9 : ¬ l = [] := fun e => by rw [e] at p0; simp at p0
      have p1 : (1 : Int) < l.length := by omega
      simp [cubbyref08_ins.j2, cubbyref08_ins.j3, asg, tup, p0, p9, p1]
    · have h3 : 3 ≤ l.length := hlen
      have p0 : (0 : Int) < l.length := by omega
      have p9 : ¬ l = [] := fun e => by rw [e] at p0; simp at p0
      have p1 : (1 : Int) < l.length := by omega
      have p2 : (2 : Int) < l.length := by omega
      simp [cubbyref08_ins.j2, cubbyref08_ins.j3, asg, tup, p0, p9, p1, p2]
    · have h4 : 3 ≤ l.length := hlen
      have p0 : (0 : Int) < l.length := by omega
      have p9 : ¬ l = [] := fun e => by rw [e] at p0; simp at p0
      have p1 : (1 : Int) < l.length := by omega
      have p2 : (2 : Int) < l.length := by omega
      simp [cubbyref08_ins.j2, cubbyref08_ins.j3, asg, tup, p0, p9, p1, p2]
    · have h5 : 3 ≤ l.length := hlen
      have p0 : (0 : Int) < l.length := by omega
      have p9 : ¬ l = [] := fun e => by rw [e] at p0; simp at p0
      have p1 : (1 : Int) < l.length := by omega
      have p2 : (2 : Int) < l.length := by omega
      simp [cubbyref08_ins.j2, cubbyref08_ins.j3, asg, tup, p0, p9, p1, p2]
    · have h6 : 3 ≤ l.length := hlen
      have p0 : (0 : Int) < l.length := by omega
      have p9 : ¬ l = [] := fun e => by rw [e] at p0; simp at p0
      have p1 : (1 : Int) < l.length := by omega
      have p2 : (2 : Int) < l.length := by omega
      simp [cubbyref08_ins.j2, cubbyref08_ins.j3, asg, tup, p0, p9, p1, p2]
    · have h7 : 3 ≤ l.length := hlen
      have p0 : (0 : Int) < l.length := by omega
      have p9 : ¬ l = [] := fun e => by rw [e] at p0; simp at p0
      have p1 : (1 : Int) < l.length := by omega
      have p2 : (2 : Int) < l.length := by omega
      simp [cubbyref08_ins.j2, cubbyref08_ins.j3, asg, tup, p0, p9, p1, p2]
    · have h8 : 2 ≤ l.length := hlen
      have p0 : (0 : Int) < l.length := by omega
      have p9 : ¬ l = [] := fun e => by rw [e] at p0; simp at p0
      have p1 : (1 : Int) < l.length := by omega
      simp [cubbyref08_ins.j2, cubbyref08_ins.j3, asg, tup, p0, p9, p1]
    · have h9 : 2 ≤ l.length := hlen
      have p0 : (0 : Int) < l.length := by omega
      have p9 : ¬ l = [] := fun e => by rw [e] at p0; simp at p0
      have p1 : (1 : Int) < l.length := by omega
      simp [cubbyref08_ins.j2, cubbyref08_ins.j3, asg, tup, p0, p9, p1]
    · have h10 : 1 ≤ l.length := hlen
      have p0 : (0 : Int) < l.length := by omega
      have p9 : ¬ l = [] := fun e => by rw [e] at p0; simp at p0
      simp [cubbyref08_ins.j2, cubbyref08_ins.j3, asg, tup, p0, p9]
    · cases code with
      | true =>
        have h11 : 2 ≤ l.length := hlen
        have p0 : (0 : Int) < l.length := by omega
        have p9 : ¬ l = [] := fun e => by rw [e] at p0; simp at p0
        have p1 : (1 : Int) < l.length := by omega
        simp [cubbyref08_ins.j2, cubbyref08_ins.j3, asg, tup, p0, p1, p9]
      | false =>
        have h11 : 1 ≤ l.length := hlen
        have p0 : (0 : Int) < l.length := by omega
        have p9 : ¬ l = [] := fun e => by rw [e] at p0; simp at p0
        by_cases h2 : 1 < l.length
        · have p1 : (1 : Int) < l.length := by omega
          have p2 : (1 : Int) ≤ l.length := by omega
          have p3 : l.length - 1 < 17592186044416 := by omega
          simp [cubbyref08_ins.j2, cubbyref08_ins.j3, asg, tup, p0, p9, h2, p2, p3]
          exact ⟨by omega, fun h => absurd h (by omega)⟩
        · have hd : l.drop 1 = [] := List.drop_eq_nil_of_le (by omega)
          simp [cubbyref08_ins.j2, cubbyref08_ins.j3, asg, tup, p0, p9, h2, hd]
          exact ⟨by omega, fun h => by omega⟩
    · have h12 : 1 ≤ l.length := hlen
      have p0 : (0 : Int) < l.length := by omega
      have p9 : ¬ l = [] := fun e => by rw [e] at p0; simp at p0
      simp [cubbyref08_ins.j2, cubbyref08_ins.j3, asg, tup, p0, p9]
    · have h13 : 3 ≤ l.length := hlen
      have p0 : (0 : Int) < l.length := by omega
      have p9 : ¬ l = [] := fun e => by rw [e] at p0; simp at p0
      have p1 : (1 : Int) < l.length := by omega
      have p2 : (2 : Int) < l.length := by omega
      simp [cubbyref08_ins.j2, cubbyref08_ins.j3, asg, tup, p0, p9, p1, p2]
    · have h14 : 1 ≤ l.length := hlen
      have p0 : (0 : Int) < l.length := by omega
      have p9 : ¬ l = [] := fun e => by rw [e] at p0; simp at p0
      simp [cubbyref08_ins.j2, cubbyref08_ins.j3, asg, tup, p0, p9]
    · have h21 : 2 ≤ l.length := hlen
      have p0 : (0 : Int) < l.length := by omega
      have p9 : ¬ l = [] := fun e => by rw [e] at p0; simp at p0
      have p1 : (1 : Int) < l.length := by omega
      simp [cubbyref08_ins.j2, cubbyref08_ins.j3, asg, tup, p0, p9, p1]
    · have h22 : 2 ≤ l.length := hlen
      have p0 : (0 : Int) < l.length := by omega
      have p9 : ¬ l = [] := fun e => by rw [e] at p0; simp at p0
      have p1 : (1 : Int) < l.length := by omega
      simp [cubbyref08_ins.j2, cubbyref08_ins.j3, asg, tup, p0, p9, p1]
  · simp only [if_neg he]
    exact Ev.now _

def wR (code : Bool) (n : Nat) : List UInt8 := if n ∈ [1, 2, 3, 4, 5, 6, 7, 8, 9, 10, 11, 12, 13, 14] then wd n else if code = true ∧ n ∈ [21, 22] then wd n else []
theorem word_ev (code : Bool) (n : Nat) (h1 : 1 ≤ n) (h2 : n < 23) : Ev (fun k => cubbyref08_word.f k (n : Int) code) (B (wR code n)) := by
  have key : ∀ n : Fin 23, 1 ≤ n.val → ∀ code : Bool, cubbyref08_word.f 5 (n.val : Int) code = some (B (wR code n.val)) := by decide +kernel
  exact Ev.of (cubbyref08_word.mono _ _) (key ⟨n, h2⟩ h1 code)
def nn (code : Bool) (o : Nat) : Nat := if o = 11 then (if code = true then 2 else 1) else (fd code o).length
theorem numbers_ev (code : Bool) (o : Nat) (ho : o ∈ opsL) : Ev (fun k => cubbyref08_numbers.f k (o : Int) 0 0 0 ⟨#[]⟩ [] code) (List.replicate (nn code o) 0) := by
  have key : ∀ o ∈ opsL, ∀ code : Bool, cubbyref08_numbers.f 5 (o : Int) 0 0 0 ⟨#[]⟩ [] code = some (List.replicate (nn code o) 0) := by decide +kernel
  exact Ev.of (cubbyref08_numbers.mono _ _ _ _ _ _ _) (key o ho code)
def manyN (code : Bool) (o n : Nat) : Nat := if o = 11 then (if code = true then 3 else max 2 (n - 1)) else (fd code o).length
def nameN (o : Nat) : Int := if o = 11 then 1 else -1
theorem readG_len (nm : ByteArray → Bool) (name : Int) : ∀ (r : List ByteArray) (i : Nat) (out : List Int) (s : ByteArray), (readG nm i name r out s).2.2 = 0 →
    (readG nm i name r out s).1.length ≤ out.length + r.length ∧ out.length + r.length ≤ (readG nm i name r out s).1.length + 1 ∧ (name < (i : Int) → (readG nm i name r out s).1.length = out.length + r.length)
  | [], i, out, s, h => by simp [readG]
  | t :: r, i, out, s, h => by
    rw [readG] at h ⊢
    by_cases hn : (i : Int) = name
    · rw [if_pos hn] at h ⊢
      by_cases hb : nm t = true
      · rw [if_pos hb] at h ⊢
        obtain ⟨h1, h2, h3⟩ := readG_len nm name r (i + 1) out t h
        have := h3 (by omega)
        simp only [List.length_cons]
        exact ⟨by omega, by omega, fun h => by omega⟩
      · rw [if_neg hb] at h; cases h
    · rw [if_neg hn] at h ⊢
      cases hx : num t with
      | none => rw [hx] at h; cases h
      | some v =>
        rw [hx] at h
        obtain ⟨h1, h2, h3⟩ := readG_len nm name r (i + 1) (out ++ [v]) s h
        simp only [List.length_append, List.length_cons, List.length_nil] at h1 h2 h3 ⊢
        exact ⟨by omega, by omega, fun h => by have := h3 (by omega); omega⟩
/-- The reference's instruction, of a line's words whose first is the word of o. -/
def insO (code : Bool) (o : Nat) (ws : List ByteArray) : S72 × Int :=
  if (readR ws (manyN code o ws.length) (nameN o)).2.2 = 0 then (asg code o (readR ws (manyN code o ws.length) (nameN o)).1 (readR ws (manyN code o ws.length) (nameN o)).2.1, 0) else (z72, (readR ws (manyN code o ws.length) (nameN o)).2.2)
def tupE (x : S72 × Int) : InsT := if x.2 = 0 then tup x.1 else (0, 0, 0, 0, ⟨#[]⟩, [], x.2)
theorem cnt_fd (code : Bool) (o : Nat) (ho : o ∈ opsL) : (o ≠ 11 → cnt code o = (fd code o).length) ∧ (fd code o).length ≤ 3 := by
  have key : ∀ o ∈ opsL, ∀ code : Bool, (o ≠ 11 → cnt code o = (fd code o).length) ∧ (fd code o).length ≤ 3 := by decide +kernel
  exact key o ho code
theorem readR_cnt (code : Bool) (o : Nat) (ho : o ∈ opsL) (ws : List ByteArray) (h : (readR ws (manyN code o ws.length) (nameN o)).2.2 = 0) : cnt code o ≤ (readR ws (manyN code o ws.length) (nameN o)).1.length := by
  unfold readR at h ⊢
  by_cases hl : ws.length = manyN code o ws.length + 1
  · rw [if_pos hl] at h ⊢
    obtain ⟨_, h2, h3⟩ := readG_len nmL (nameN o) (ws.drop 1) 0 [] ⟨#[]⟩ h
    rw [List.length_drop] at h2 h3
    simp only [List.length_nil, Nat.zero_add] at h2 h3
    by_cases h11 : o = 11
    · subst h11
      unfold manyN at hl
      rw [if_pos rfl] at hl
      cases code with
      | true =>
        rw [if_pos rfl] at hl
        show 2 ≤ _
        omega
      | false =>
        rw [if_neg (by decide)] at hl
        show 1 ≤ _
        omega
    · unfold manyN at hl
      rw [if_neg h11] at hl
      rw [(cnt_fd code o ho).1 h11]
      have hn : nameN o = -1 := by unfold nameN; rw [if_neg h11]
      have := h3 (by rw [hn]; decide)
      omega
  · rw [if_neg hl] at h
    cases h
theorem readR_le (ws : List ByteArray) (many : Nat) (name : Int) (hws : ws.length ≤ 4097) : (readR ws many name).1.length ≤ 5000 := by
  unfold readR
  split
  · by_cases h : (readG nmL 0 name (ws.drop 1) [] ⟨#[]⟩).2.2 = 0
    · have := (readG_len nmL name (ws.drop 1) 0 [] ⟨#[]⟩ h).1
      rw [List.length_drop] at this
      simp only [List.length_nil] at this
      omega
    · have key : ∀ (r : List ByteArray) (i : Nat) (out : List Int) (s : ByteArray), (readG nmL i name r out s).2.2 ≠ 0 → (readG nmL i name r out s).1 = [] := by
        intro r
        induction r with
        | nil => intro i out s h; exact absurd rfl h
        | cons t r ih =>
          intro i out s h
          rw [readG] at h ⊢
          split
          · split
            · rename_i h1 h2
              rw [if_pos h1, if_pos h2] at h
              exact ih _ _ _ h
            · rfl
          · rename_i h1
            rw [if_neg h1] at h
            split
            · rfl
            · rename_i v hx
              rw [hx] at h
              exact ih _ _ _ h
      rw [key _ _ _ _ h]
      simp
  · simp
theorem fin_ev (code : Bool) (o : Nat) (ho : o ∈ opsL) (ws : List ByteArray) (hws : ws.length ≤ 4097) (h1 : 1 ≤ ws.length) (hsz : ∀ t ∈ ws, t.size ≤ 4096) : Ev (fun k => cubbyref08_ins.l0 k ws code (o : Int) ((23 : Nat) : Int)) (tupE (insO code o ws)) := by
  have hm : manyN code o ws.length ≤ 5000 := by
    unfold manyN
    have := (cnt_fd code o ho).2
    split
    · split <;> omega
    · omega
  have hj := j1_ev code o ho ws (manyN code o ws.length) (nameN o) _ (read_ev ws _ _ hm hsz) (readR_cnt code o ho ws) (readR_le ws _ _ hws)
  have hres : (if (readR ws (manyN code o ws.length) (nameN o)).2.2 = 0 then tup (asg code o (readR ws (manyN code o ws.length) (nameN o)).1 (readR ws (manyN code o ws.length) (nameN o)).2.1) else (0, 0, 0, 0, ⟨#[]⟩, [], (readR ws (manyN code o ws.length) (nameN o)).2.2)) = tupE (insO code o ws) := by
    unfold tupE insO
    by_cases h : (readR ws (manyN code o ws.length) (nameN o)).2.2 = 0
    · simp only [if_pos h, if_true]
    · simp only [if_neg h]
  rw [hres] at hj
  refine Ev.step (f := fun k => (cubbyref08_numbers.f k (o : Int) 0 0 0 ⟨#[]⟩ [] code).bind fun t => if (o : Int) = 11 then (if code = true then cubbyref08_ins.j1 k ws code o (wrap64 ((t.length : Int) + 1)) 1 o 0 0 0 ⟨#[]⟩ else cubbyref08_ins.j1 k ws code o (mx 2 (wrap64 ((ws.length : Int) - 1))) 1 o 0 0 0 ⟨#[]⟩) else cubbyref08_ins.j1 k ws code o (t.length : Int) (-1) o 0 0 0 ⟨#[]⟩) (fun k => ?_) (Ev.bind (numbers_ev code o ho) ?_)
  · simp only [cubbyref08_ins.l0]
    rw [if_neg (by omega), if_neg (by omega)]
  · rw [List.length_replicate]
    refine Ev.congr (fun k => ?_) hj
    by_cases h11 : o = 11
    · subst h11
      rw [if_pos (show ((11 : Nat) : Int) = 11 from rfl)]
      cases code with
      | true =>
        rw [if_pos rfl]
        have hw : wrap64 ((nn true 11 : Nat) + 1 : Int) = ((manyN true 11 ws.length : Nat) : Int) := by
          rw [w64 (by decide) (by decide)]
          rfl
        rw [hw]
        rfl
      | false =>
        rw [if_neg (by decide)]
        have hw : mx 2 (wrap64 ((ws.length : Int) - 1)) = ((manyN false 11 ws.length : Nat) : Int) := by
          rw [w64 (by omega) (by omega)]
          have hm2 : manyN false 11 ws.length = max 2 (ws.length - 1) := rfl
          rw [hm2]
          unfold mx
          split <;> omega
        rw [hw]
        rfl
    · rw [if_neg (by omega)]
      have hw : (nn code o : Int) = ((manyN code o ws.length : Nat) : Int) := by unfold nn manyN; rw [if_neg h11, if_neg h11]
      have hn : (-1 : Int) = nameN o := by unfold nameN; rw [if_neg h11]
      rw [hw, hn]

theorem loop_step (code : Bool) (t0 : ByteArray) (r : List ByteArray) (n : Nat) (x6 : Int) (R : InsT) (h1 : 1 ≤ n) (h2 : n < 23) (h : Ev (fun k => cubbyref08_ins.l0 k (t0 :: r) code (if wR code n = L t0 ∧ L t0 ≠ [] then (n : Int) else x6) ((n + 1 : Nat) : Int)) R) : Ev (fun k => cubbyref08_ins.l0 k (t0 :: r) code x6 (n : Int)) R := by
  have hwr : wrap64 ((n : Int) + 1) = ((n + 1 : Nat) : Int) := by rw [w64 (by omega) (by omega)]; omega
  refine Ev.step (f := fun k => (cubbyref08_word.f k (n : Int) code).bind fun t => if 0 < ((t0 :: r).length : Int) then (if t.toList = t0.toList then (if t0.toList = [] then cubbyref08_ins.l0 k (t0 :: r) code x6 ((n + 1 : Nat) : Int) else cubbyref08_ins.l0 k (t0 :: r) code n ((n + 1 : Nat) : Int)) else cubbyref08_ins.l0 k (t0 :: r) code x6 ((n + 1 : Nat) : Int)) else none) (fun k => ?_) (Ev.bind (word_ev code n h1 h2) ?_)
  · simp only [cubbyref08_ins.l0]
    rw [if_pos (by omega), hwr]
    rfl
  · refine Ev.congr (fun k => ?_) h
    rw [if_pos (by simp only [List.length_cons]; omega), toList_L, toList_L, L_B]
    by_cases ha : wR code n = L t0
    · rw [if_pos ha]
      by_cases hb : L t0 = []
      · rw [if_pos hb, if_neg (fun h => h.2 hb)]
      · rw [if_neg hb, if_pos ⟨ha, hb⟩]
    · rw [if_neg ha, if_neg (fun h => ha h.1)]
theorem loop_ev (code : Bool) (t0 : ByteArray) (r : List ByteArray) (o : Nat) (R : InsT) (hm : ∀ m, 1 ≤ m → m < 23 → ((wR code m = L t0 ∧ L t0 ≠ []) ↔ m = o)) : ∀ (d n : Nat) (x6 : Int), n + d = 23 → 1 ≤ n → (o < 23) →
    Ev (fun k => cubbyref08_ins.l0 k (t0 :: r) code (if n ≤ o then (o : Int) else x6) ((23 : Nat) : Int)) R → Ev (fun k => cubbyref08_ins.l0 k (t0 :: r) code x6 (n : Int)) R
  | 0, n, x6, hd, h1, ho, h => by
    obtain rfl : n = 23 := by omega
    rw [if_neg (by omega)] at h
    exact h
  | d + 1, n, x6, hd, h1, ho, h => by
    refine loop_step code t0 r n x6 R h1 (by omega) (loop_ev code t0 r o R hm d (n + 1) _ (by omega) (by omega) ho ?_)
    have hn := hm n h1 (by omega)
    by_cases hno : n = o
    · rw [if_pos (by omega)] at h
      rw [if_neg (by omega), if_pos (hn.2 hno), hno]
      exact h
    · rw [if_neg (fun e => hno (hn.1 e))]
      by_cases hlt : n ≤ o
      · rw [if_pos hlt] at h
        rw [if_pos (by omega)]
        exact h
      · rw [if_neg hlt] at h
        rw [if_neg (by omega)]
        exact h
/-- The reference's instruction, of a line's words. -/
def insAll (code : Bool) (t0 : ByteArray) (r : List ByteArray) : S72 × Int := match opOf code (L t0) with | none => (z72, 80) | some o => insO code o (t0 :: r)
theorem ins_ev (code : Bool) (t0 : ByteArray) (r : List ByteArray) (hws : (t0 :: r).length ≤ 4097) (hsz : ∀ t ∈ t0 :: r, t.size ≤ 4096) : Ev (fun k => cubbyref08_ins.f k (t0 :: r) code) (tupE (insAll code t0 r)) := by
  unfold cubbyref08_ins.f insAll
  cases hx : opOf code (L t0) with
  | none =>
    obtain ⟨h1, h2⟩ := opOf_none hx
    refine loop_ev code t0 r 0 _ (fun m m1 m2 => ⟨fun ⟨ha, hb⟩ => ?_, fun e => by omega⟩) 22 1 (-1) rfl (by omega) (by omega) ?_
    · exfalso
      unfold wR at ha
      by_cases c1 : m ∈ [1, 2, 3, 4, 5, 6, 7, 8, 9, 10, 11, 12, 13, 14]
      · rw [if_pos c1] at ha
        exact h1 m c1 ha.symm
      · rw [if_neg c1] at ha
        by_cases c2 : code = true ∧ m ∈ [21, 22]
        · rw [if_pos c2] at ha
          exact h2 c2.1 m c2.2 ha.symm
        · rw [if_neg c2] at ha
          exact hb ha.symm
    · rw [if_neg (by omega)]
      exact Ev.step (f := fun _ => some (0, 0, 0, 0, ⟨#[]⟩, [], 80)) (fun k => by simp only [cubbyref08_ins.l0]; rw [if_neg (by omega), if_pos (by omega)]) (Ev.now _)
  | some o =>
    obtain ⟨h1, h2⟩ := opOf_spec hx
    have ho := op_mem h2
    have key : ∀ m : Fin 23, ∀ o ∈ opsL, ∀ code : Bool, (20 < o → code = true) → ((wR code m.val = wd o ∧ wd o ≠ []) ↔ m.val = o) := by decide +kernel
    have hc : 20 < o → code = true := fun h => by
      rcases h2 with h2 | h2
      · simp only [List.mem_cons, List.not_mem_nil, or_false] at h2
        omega
      · exact h2.1
    have ho23 : 1 ≤ o ∧ o < 23 := by
      simp only [List.mem_cons, List.not_mem_nil, or_false] at ho
      omega
    refine loop_ev code t0 r o _ (fun m m1 m2 => ?_) 22 1 (-1) rfl (by omega) ho23.2 ?_
    · rw [h1]
      exact key ⟨m, m2⟩ o ho code hc
    · rw [if_pos ho23.1]
      exact fin_ev code o ho (t0 :: r) hws (by simp) hsz

/-! ### the program's instruction -/
theorem hasL (code : Bool) (o : Nat) (ho : o ∈ opsL) : Lib.hasSuffix (B (fd code o)).data.toList [76] = decide (o = 11 ∧ code = false) ∧ (B (fd code o)).size = (fd code o).length := by
  have key : ∀ o ∈ opsL, ∀ code : Bool, Lib.hasSuffix (B (fd code o)).data.toList [76] = decide (o = 11 ∧ code = false) ∧ (B (fd code o)).size = (fd code o).length := by decide +kernel
  exact key o ho code
theorem prog_ins (code : Bool) (o : Nat) (ho : o ∈ opsL) (t0 : ByteArray) (r : List ByteArray) (blocks : List (List S72)) (hb : blocks.length ≠ 0) :
    lineF nmL o (B (fd code o)) true blocks r r.length = if (insO code o (t0 :: r)).2 = 0 then (0, addLast blocks (insO code o (t0 :: r)).1) else ((insO code o (t0 :: r)).2, []) := by
  obtain ⟨hL, hS⟩ := hasL code o ho
  unfold lineF
  rw [if_neg (by rintro (h | h); cases h; exact hb h)]
  have hbad : lineBad (B (fd code o)) r.length = decide (r.length ≠ manyN code o (t0 :: r).length) := by
    unfold lineBad manyN
    rw [hL, hS]
    by_cases h11 : o = 11
    · subst h11
      rw [if_pos rfl]
      cases code with
      | true => rw [if_neg (by decide), if_pos rfl]; rfl
      | false =>
        rw [if_pos (by decide), if_neg (by decide)]
        rw [Bool.eq_iff_iff, decide_eq_true_iff, decide_eq_true_iff]
        show r.length + 1 < 3 ↔ _
        simp only [List.length_cons]
        omega
    · rw [if_neg (by simp [h11]), if_neg h11]
  by_cases hl : r.length = manyN code o (t0 :: r).length
  · rw [if_neg (by rw [hbad]; simpa using hl)]
    have hR : readR (t0 :: r) (manyN code o (t0 :: r).length) (nameN o) = readG nmL 0 (nameN o) r [] ⟨#[]⟩ := by
      unfold readR
      rw [if_pos (by have := hl; simp only [List.length_cons] at *; omega)]
      rfl
    unfold insO
    rw [hR]
    clear hR hbad hL hS
    unfold opsL at ho
    simp only [List.mem_cons, List.not_mem_nil, or_false] at ho
    rcases ho with rfl | rfl | rfl | rfl | rfl | rfl | rfl | rfl | rfl | rfl | rfl | rfl | rfl | rfl | rfl | rfl
    · obtain ⟨a, b, rfl⟩ : ∃ a b : ByteArray, r = [a, b] := by
        have hl : r.length = 2 := hl
        match r, hl with
        | [a, b], _ => exact ⟨a, b, rfl⟩
      cases ha : num a <;> cases hb : num b <;> simp [fillF, setF, readG, nameN, fd, asg, rd, rdOf, ha, hb]
    · obtain ⟨a, b, rfl⟩ : ∃ a b : ByteArray, r = [a, b] := by
        have hl : r.length = 2 := hl
        match r, hl with
        | [a, b], _ => exact ⟨a, b, rfl⟩
      cases ha : num a <;> cases hb : num b <;> simp [fillF, setF, readG, nameN, fd, asg, rd, rdOf, ha, hb]
    · obtain ⟨a, b, c, rfl⟩ : ∃ a b c : ByteArray, r = [a, b, c] := by
        have hl : r.length = 3 := hl
        match r, hl with
        | [a, b, c], _ => exact ⟨a, b, c, rfl⟩
      cases ha : num a <;> cases hb : num b <;> cases hc : num c <;> simp [fillF, setF, readG, nameN, fd, asg, rd, rdOf, ha, hb, hc]
    · obtain ⟨a, b, c, rfl⟩ : ∃ a b c : ByteArray, r = [a, b, c] := by
        have hl : r.length = 3 := hl
        match r, hl with
        | [a, b, c], _ => exact ⟨a, b, c, rfl⟩
      cases ha : num a <;> cases hb : num b <;> cases hc : num c <;> simp [fillF, setF, readG, nameN, fd, asg, rd, rdOf, ha, hb, hc]
    · obtain ⟨a, b, c, rfl⟩ : ∃ a b c : ByteArray, r = [a, b, c] := by
        have hl : r.length = 3 := hl
        match r, hl with
        | [a, b, c], _ => exact ⟨a, b, c, rfl⟩
      cases ha : num a <;> cases hb : num b <;> cases hc : num c <;> simp [fillF, setF, readG, nameN, fd, asg, rd, rdOf, ha, hb, hc]
    · obtain ⟨a, b, c, rfl⟩ : ∃ a b c : ByteArray, r = [a, b, c] := by
        have hl : r.length = 3 := hl
        match r, hl with
        | [a, b, c], _ => exact ⟨a, b, c, rfl⟩
      cases ha : num a <;> cases hb : num b <;> cases hc : num c <;> simp [fillF, setF, readG, nameN, fd, asg, rd, rdOf, ha, hb, hc]
    · obtain ⟨a, b, c, rfl⟩ : ∃ a b c : ByteArray, r = [a, b, c] := by
        have hl : r.length = 3 := hl
        match r, hl with
        | [a, b, c], _ => exact ⟨a, b, c, rfl⟩
      cases ha : num a <;> cases hb : num b <;> cases hc : num c <;> simp [fillF, setF, readG, nameN, fd, asg, rd, rdOf, ha, hb, hc]
    · obtain ⟨a, b, rfl⟩ : ∃ a b : ByteArray, r = [a, b] := by
        have hl : r.length = 2 := hl
        match r, hl with
        | [a, b], _ => exact ⟨a, b, rfl⟩
      cases ha : num a <;> cases hb : num b <;> simp [fillF, setF, readG, nameN, fd, asg, rd, rdOf, ha, hb]
    · obtain ⟨a, b, rfl⟩ : ∃ a b : ByteArray, r = [a, b] := by
        have hl : r.length = 2 := hl
        match r, hl with
        | [a, b], _ => exact ⟨a, b, rfl⟩
      cases ha : num a <;> cases hb : num b <;> simp [fillF, setF, readG, nameN, fd, asg, rd, rdOf, ha, hb]
    · obtain ⟨a, rfl⟩ : ∃ a : ByteArray, r = [a] := by
        have hl : r.length = 1 := hl
        match r, hl with
        | [a], _ => exact ⟨a, rfl⟩
      cases ha : num a <;> simp [fillF, setF, readG, nameN, fd, asg, rd, rdOf, ha]
    · cases code with
      | true =>
        obtain ⟨a, b, c, rfl⟩ : ∃ a b c : ByteArray, r = [a, b, c] := by
          have hl : r.length = 3 := hl
          match r, hl with
          | [a, b, c], _ => exact ⟨a, b, c, rfl⟩
        cases ha : num a <;> cases hc : num c <;> by_cases hn : nmL b = true <;> simp [fillF, setF, readG, nameN, fd, asg, rd, rdOf, ha, hc, hn]
      | false =>
        obtain ⟨a, b, q, rfl⟩ : ∃ (a b : ByteArray) (q : List ByteArray), r = a :: b :: q := by
          have hl : r.length = max 2 ((t0 :: r).length - 1) := hl
          match r, hl with
          | [], hl => simp at hl
          | [a], hl => simp at hl
          | a :: b :: q, _ => exact ⟨a, b, q, rfl⟩
        cases ha : num a with
        | none => simp [fillF, setF, readG, nameN, fd, asg, rd, rdOf, ha]
        | some va =>
          by_cases hn : nmL b = true
          · have hq := readG_nums nmL 1 q 2 [va] b (by decide)
            cases hx : nums q with
            | none =>
              rw [hx] at hq
              simp [fillF, setF, readG, nameN, fd, asg, rd, rdOf, ha, hn, hx, hq]
            | some l =>
              rw [hx] at hq
              simp [fillF, setF, readG, nameN, fd, asg, rd, rdOf, ha, hn, hx, hq]
          · simp [fillF, setF, readG, nameN, fd, asg, rd, rdOf, ha, hn]
    · obtain ⟨a, rfl⟩ : ∃ a : ByteArray, r = [a] := by
        have hl : r.length = 1 := hl
        match r, hl with
        | [a], _ => exact ⟨a, rfl⟩
      cases ha : num a <;> simp [fillF, setF, readG, nameN, fd, asg, rd, rdOf, ha]
    · obtain ⟨a, b, c, rfl⟩ : ∃ a b c : ByteArray, r = [a, b, c] := by
        have hl : r.length = 3 := hl
        match r, hl with
        | [a, b, c], _ => exact ⟨a, b, c, rfl⟩
      cases ha : num a <;> cases hb : num b <;> cases hc : num c <;> simp [fillF, setF, readG, nameN, fd, asg, rd, rdOf, ha, hb, hc]
    · obtain ⟨a, rfl⟩ : ∃ a : ByteArray, r = [a] := by
        have hl : r.length = 1 := hl
        match r, hl with
        | [a], _ => exact ⟨a, rfl⟩
      cases ha : num a <;> simp [fillF, setF, readG, nameN, fd, asg, rd, rdOf, ha]
    · obtain ⟨a, b, rfl⟩ : ∃ a b : ByteArray, r = [a, b] := by
        have hl : r.length = 2 := hl
        match r, hl with
        | [a, b], _ => exact ⟨a, b, rfl⟩
      cases ha : num a <;> cases hb : num b <;> simp [fillF, setF, readG, nameN, fd, asg, rd, rdOf, ha, hb]
    · obtain ⟨a, b, rfl⟩ : ∃ a b : ByteArray, r = [a, b] := by
        have hl : r.length = 2 := hl
        match r, hl with
        | [a, b], _ => exact ⟨a, b, rfl⟩
      cases ha : num a <;> cases hb : num b <;> simp [fillF, setF, readG, nameN, fd, asg, rd, rdOf, ha, hb]
  · rw [if_pos (by rw [hbad]; simpa using hl)]
    have hR : readR (t0 :: r) (manyN code o (t0 :: r).length) (nameN o) = ([], ⟨#[]⟩, 80) := by
      unfold readR
      rw [if_neg (by have := hl; simp only [List.length_cons] at *; omega)]
    unfold insO
    rw [hR]
    rfl
end Go.Proofs.YtfibkajflenekaaDoor.G
