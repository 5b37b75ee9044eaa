import Derived.Test.YtnpmmhceiaedcaaDoorPAx4
import Derived.Lib.IndexLaws
import Derived.KernelRfl
/- lex: what each of its small functions computes, over lists of bytes. -/
namespace Go.Proofs.YtnpmmhceiaedcaaDoor.X
open Go.RowKit Go.Proofs.YtnpmmhceiaedcaaDoor.H Go.Proofs.YtnpmmhceiaedcaaDoor.PA Go.Proofs.YtnpmmhceiaedcaaDoorW.PrintWords Go.Proofs.YtnpmmhceiaedcaaDoorW.PrintLast Go.Proofs.YtnpmmhceiaedcaaDoorW.PrintMore
set_option linter.unusedVariables false

/-- A list of bytes as a string. -/
abbrev ba (l : List UInt8) : ByteArray := ⟨l.toArray⟩
/-- What a function of a byte tells. -/
def tb (p : Int → Option Bool) (c : UInt8) : Bool := p (c.toNat : Int) == some true
def allb : List Nat := List.range 256
theorem byte_all {P : Nat → Bool} (h : (List.range 256).all P = true) (c : UInt8) : P c.toNat = true := by
  have := List.all_eq_true.1 h c.toNat (List.mem_range.2 c.toNat_lt)
  exact this
theorem tb_some {p : Int → Option Bool} (h : (List.range 256).all (fun n => (p (n : Int)).isSome) = true) (c : UInt8) : p (c.toNat : Int) = some (tb p c) := by
  have h1 := byte_all (P := fun n => (p (n : Int)).isSome) h c
  unfold tb
  cases hp : p (c.toNat : Int) with
  | none => simp [hp] at h1
  | some b => cases b <;> rfl
abbrev bk := tb lex_blank.f
abbrev gd := tb lex_good.f
abbrev s1 := tb lex_skip_1.f
abbrev dg := tb lex_digit.f
abbrev nm := tb (lex_named.f 3)
abbrev b1 := tb lex_bars_1.f
abbrev q1 := tb lex_literal_1.f
abbrev c1 := tb lex_coded_1.f
abbrev c2 := tb lex_coded_2.f
theorem bk_is (c : UInt8) : lex_blank.f (c.toNat : Int) = some (bk c) := tb_some (by kernel_rfl) c
theorem gd_is (c : UInt8) : lex_good.f (c.toNat : Int) = some (gd c) := tb_some (by kernel_rfl) c
theorem s1_is (c : UInt8) : lex_skip_1.f (c.toNat : Int) = some (s1 c) := tb_some (by kernel_rfl) c
theorem dg_is (c : UInt8) : lex_digit.f (c.toNat : Int) = some (dg c) := tb_some (by kernel_rfl) c
theorem nm_is (c : UInt8) : lex_named.f 3 (c.toNat : Int) = some (nm c) := tb_some (by kernel_rfl) c
theorem b1_is (c : UInt8) : lex_bars_1.f (c.toNat : Int) = some (b1 c) := tb_some (by kernel_rfl) c
theorem q1_is (c : UInt8) : lex_literal_1.f (c.toNat : Int) = some (q1 c) := tb_some (by kernel_rfl) c
theorem c1_is (c : UInt8) : lex_coded_1.f (c.toNat : Int) = some (c1 c) := tb_some (by kernel_rfl) c
theorem c2_is (c : UInt8) : lex_coded_2.f (c.toNat : Int) = some (c2 c) := tb_some (by kernel_rfl) c
theorem bk10 : bk 10 = true := by kernel_rfl
theorem bk32 : bk 32 = true := by kernel_rfl
theorem bk59 : bk 59 = false := by kernel_rfl
theorem s110 : s1 10 = false := by kernel_rfl
theorem s159 : s1 59 = true := by kernel_rfl
theorem nm10 : nm 10 = false := by kernel_rfl
theorem b110 : b1 10 = true := by kernel_rfl
theorem q110 : q1 10 = true := by kernel_rfl
theorem q134 : q1 34 = false := by kernel_rfl
theorem seen (c : UInt8) (h : 32 ≤ c.toNat) (h' : c.toNat ≤ 126) : s1 c = true := by
  have := byte_all (P := fun n => if 32 ≤ n ∧ n ≤ 126 then lex_skip_1.f (n : Int) == some true else true) (by kernel_rfl) c
  simp only [if_pos (And.intro h h')] at this
  exact this

/-- How many bytes at the beginning are of a kind. -/
def sp (p : UInt8 → Bool) : List UInt8 → Nat
  | [] => 0
  | c :: r => if p c = true then sp p r + 1 else 0
theorem sp_le (p : UInt8 → Bool) : ∀ l, sp p l ≤ l.length
  | [] => Nat.le_refl 0
  | c :: r => by have := sp_le p r; simp only [sp, List.length_cons]; split <;> omega
theorem spanO_is {p : Int → Option Bool} (hp : ∀ c : UInt8, p (c.toNat : Int) = some (tb p c)) : ∀ (l : List UInt8) (i : Int), spanO p l i = some (i + (sp (tb p) l : Int))
  | [], i => by simp [spanO, sp]
  | c :: r, i => by
    simp only [spanO, sp, hp c, Option.bind_some]
    split
    · rename_i h
      rw [spanO_is hp r (i + 1)]
      congr 1; push_cast; omega
    · simp
theorem sp_app (p : UInt8 → Bool) (hn : p 10 = false) (y : List UInt8) : ∀ x, sp p (x ++ 10 :: y) = sp p x
  | [] => by simp [sp, hn]
  | c :: r => by simp only [List.cons_append, sp, sp_app p hn y r]
theorem sp_lt (p : UInt8 → Bool) (y : List UInt8) : ∀ x, sp p x < x.length → sp p (x ++ y) = sp p x
  | [], h => by simp at h
  | c :: r, h => by
    simp only [List.cons_append, sp] at h ⊢
    split
    · rename_i hc
      rw [if_pos hc] at h
      simp only [List.length_cons] at h
      rw [sp_lt p y r (by omega)]
    · rfl
theorem sp_at (p : UInt8 → Bool) : ∀ (x : List UInt8), (h : sp p x < x.length) → p x[sp p x] = false
  | [], h => by simp at h
  | c :: r, h => by
    by_cases hc : p c = true
    · have e : sp p (c :: r) = sp p r + 1 := by simp only [sp, if_pos hc]
      have h' : sp p r < r.length := by rw [e] at h; simpa using h
      have := sp_at p r h'
      simp only [e, List.getElem_cons_succ]
      exact this
    · have e : sp p (c :: r) = 0 := by simp only [sp, if_neg hc]
      simp only [e, List.getElem_cons_zero]
      simpa using hc
theorem sp_all (p : UInt8 → Bool) (y : List UInt8) : ∀ x, sp p x = x.length → sp p (x ++ y) = x.length + sp p y
  | [], h => by simp
  | c :: r, h => by
    simp only [List.cons_append, sp, List.length_cons] at h ⊢
    have hl := sp_le p r
    split at h
    · rename_i hc
      rw [if_pos hc, sp_all p y r (by omega)]; omega
    · omega

theorem ba_size (l : List UInt8) : (ba l).size = l.length := rfl
theorem F12 (l : List UInt8) (h : l.length ≤ 140737488351232) : lex_span_F29.f (ba l) = some (sp s1 l : Int) := by
  unfold lex_span_F29.f; rw [if_pos (by exact h)]; rw [show (ba l).data.toList = l from rfl, spanO_is s1_is]; simp
theorem F14 (l : List UInt8) (h : l.length ≤ 140737488351232) : lex_span_F18.f (ba l) = some (sp nm l : Int) := by
  unfold lex_span_F18.f; rw [if_pos (by exact h)]; rw [show (ba l).data.toList = l from rfl, spanO_is nm_is]; simp
theorem F17 (l : List UInt8) (h : l.length ≤ 140737488351232) : lex_span_F16.f (ba l) = some (sp dg l : Int) := by
  unfold lex_span_F16.f; rw [if_pos (by exact h)]; rw [show (ba l).data.toList = l from rfl, spanO_is dg_is]; simp
theorem F21 (l : List UInt8) (h : l.length ≤ 140737488351232) : lex_span_F47.f (ba l) = some (sp b1 l : Int) := by
  unfold lex_span_F47.f; rw [if_pos (by exact h)]; rw [show (ba l).data.toList = l from rfl, spanO_is b1_is]; simp
theorem F29 (l : List UInt8) (h : l.length ≤ 140737488351232) : lex_span_F53.f (ba l) = some (sp c1 l : Int) := by
  unfold lex_span_F53.f; rw [if_pos (by exact h)]; rw [show (ba l).data.toList = l from rfl, spanO_is c1_is]; simp
theorem F30 (l : List UInt8) (h : l.length ≤ 140737488351232) : lex_span_F54.f (ba l) = some (sp c2 l : Int) := by
  unfold lex_span_F54.f; rw [if_pos (by exact h)]; rw [show (ba l).data.toList = l from rfl, spanO_is c2_is]; simp
theorem bt_ba (l : List UInt8) (i : Nat) (h : i < l.length) : bt (ba l) (i : Int) = (l[i].toNat : Int) := by
  unfold bt
  rw [dif_pos (by rw [Int.toNat_natCast]; exact h)]
  rfl
theorem ext_ba (l : List UInt8) (i j : Nat) : (ba l).extract i j = ba ((l.take j).drop i) := by
  apply ByteArray.ext
  rw [ByteArray.data_extract]
  apply Array.toList_inj.1
  simp [List.extract_eq_take_drop, List.drop_take]
theorem ext_drop (l : List UInt8) (i : Nat) : (ba l).extract i (ba l).size = ba (l.drop i) := by
  rw [ext_ba, ba_size, List.take_length]
theorem ext_take (l : List UInt8) (j : Nat) : (ba l).extract 0 j = ba (l.take j) := by
  rw [ext_ba, List.drop_zero]
theorem app_ba (x y : List UInt8) : ba x ++ ba y = ba (x ++ y) := by
  apply ByteArray.ext
  simp [ByteArray.data_append]
theorem of_ba (b : ByteArray) : b = ba b.data.toList := rfl
end Go.Proofs.YtnpmmhceiaedcaaDoor.X
