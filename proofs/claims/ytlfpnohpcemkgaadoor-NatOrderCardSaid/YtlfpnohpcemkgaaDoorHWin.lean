import Derived.Test.YtlfpnohpcemkgaaDoorWWords
import Derived.Test.YtlfpnohpcemkgaaDoorWLast
import Derived.Test.YtlfpnohpcemkgaaDoorWMore
import Derived.Test.YtlfpnohpcemkgaaDoorWApart
import Derived.Test.YtlfpnohpcemkgaaDoorWKept
import Derived.Test.YtlfpnohpcemkgaaDoorProg
import Derived.WalkKit
import Derived.KernelRfl
/- A window of a row of one's own (numbers of 32 bits): what the words ask of a row, for the window. -/
namespace Go.Proofs.YtlfpnohpcemkgaaDoor.H
open Go.RowKit Go.Proofs.YtlfpnohpcemkgaaDoorW.PrintWords Go.Proofs.YtlfpnohpcemkgaaDoorW.PrintLast

theorem own_any {k : Nat} {A : Option Addr} {n m c : Nat} (h : some k ≠ (Value.slice A n c).ownBlock) : some k ≠ (Value.slice A m c).ownBlock := by
  cases A with
  | none => exact h
  | some a => exact h
theorem win_add (g o j : Nat) : (⟨g, o, none⟩ : Addr).add j = ⟨g, o + j, none⟩ := by unfold Addr.add; split <;> simp_all
/-- A window: of the row of block g (N elements, capacity C) the part behind pre and ahead of suf; cap: the window's capacity. -/
structure Wn where
  g : Nat
  N : Nat
  C : Nat
  cap : Nat
  pre : List Int
  suf : List Int
def Wn.R (X : Wn) (w : World) (base : Nat) (ok : Nat → Prop) (v : Value) (xs : List Int) : Prop :=
  (∀ k, v.ownBlock = some k → ok k) ∧ v = .slice (some ⟨X.g, X.pre.length, none⟩) xs.length X.cap ∧ xs.length ≤ X.cap ∧ Kd.R (Kd.int .u32) 43 w base ok (.slice (some ⟨X.g, 0, none⟩) X.N X.C) (X.pre ++ xs ++ X.suf)
namespace Wn
variable {X : Wn} {w w1 : World} {base : Nat} {ok ok' : Nat → Prop} {v : Value} {xs : List Int}
theorem R_mono (h : X.R w base ok v xs) (hok : ∀ k, ok k → ok' k) : X.R w base ok' v xs := ⟨fun k hk => hok k (h.1 k hk), h.2.1, h.2.2.1, Kd.R_mono h.2.2.2 hok⟩
theorem R_alloc (h : X.R w base ok v xs) (o : Obj) : X.R (w.alloc o) base ok v xs := ⟨h.1, h.2.1, h.2.2.1, Kd.R_alloc h.2.2.2 o⟩
theorem R_drew (h : X.R w base ok v xs) : X.R w.drew base ok v xs := ⟨h.1, h.2.1, h.2.2.1, Kd.R_drew h.2.2.2⟩
theorem R_drewN (h : X.R w base ok v xs) (m : Nat) : X.R (w.drewN m) base ok v xs := ⟨h.1, h.2.1, h.2.2.1, Kd.R_drewN h.2.2.2 m⟩
theorem R_at {m : Nat} {w' : World} (hq : w.drewN m = w') (h : X.R w base ok v xs) : X.R w' base ok v xs := by subst hq; exact R_drewN h m
theorem R_slice (h : X.R w base ok v xs) : ∃ A c, v = .slice A xs.length c := ⟨_, _, h.2.1⟩
theorem R_tight (h : X.R w base ok v xs) : X.R w base (fun k => some k = v.ownBlock) v xs := ⟨fun k hk => hk.symm, h.2.1, h.2.2.1, by
  have := Kd.R_tight rfl h.2.2.2
  rw [h.2.1]
  exact this⟩
theorem R_reok {Q : Nat → Prop} (h : X.R w base Q v xs) (hok : ∀ k, v.ownBlock = some k → ok k) : X.R w base ok v xs := ⟨hok, h.2.1, h.2.2.1, Kd.R_reok rfl h.2.2.2 (fun k hk => hok k (by rw [h.2.1]; exact hk))⟩
theorem shape {A : Option Addr} {n c : Nat} (h : X.R w base ok (.slice A n c) xs) : A = some ⟨X.g, X.pre.length, none⟩ ∧ n = xs.length ∧ c = X.cap := by
  have := h.2.1
  injection this with h1 h2 h3
  exact ⟨h1, h2, h3⟩
theorem cell (h : X.R w base ok v xs) (i : Nat) (hi : i < xs.length) : w.cell? ⟨X.g, X.pre.length + i, none⟩ = some (.int .u32 (rd xs (i : Int))) ∧ w.frozen? ⟨X.g, X.pre.length + i, none⟩ = false := by
  obtain ⟨hN, _⟩ := Kd.R_reads' h.2.2.2
  have hl : (X.pre ++ xs ++ X.suf).length = X.pre.length + xs.length + X.suf.length := by simp; omega
  have := Kd.R_celln (0 : Int) h.2.2.2 ((X.pre.length + i : Nat) : Int) (by omega) (by omega)
  rw [Int.toNat_natCast] at this
  refine ⟨this.1.trans ?_, this.2⟩
  have e : rdOf (0 : Int) (X.pre ++ xs ++ X.suf) ((X.pre.length + i : Nat) : Int) = rd xs (i : Int) := by
    unfold rdOf rd
    rw [Int.toNat_natCast, Int.toNat_natCast, List.append_assoc, List.getD_eq_getElem?_getD, List.getElem?_append_right (by omega), Nat.add_sub_cancel_left, List.getElem?_append_left (by omega)]
    simp [List.getD_eq_getElem?_getD, hi]
  rw [e]
theorem R_reads' {A : Option Addr} {n c : Nat} (h : X.R w base ok (.slice A n c) xs) : n = xs.length ∧ n ≤ c ∧ Kd.C (Kd.int .u32) w A xs.length xs := by
  obtain ⟨rfl, rfl, rfl⟩ := shape h
  have hm := (Kd.R_reads' h.2.2.2).2.2.2.1
  refine ⟨rfl, h.2.2.1, rfl, by simp at hm; omega, fun hn => ⟨_, rfl, fun j p hp => ⟨[.int .u32 p], rfl, rfl, fun i u hu => ?_⟩⟩⟩
  have hi0 : i = 0 := by
    rcases i with _ | i
    · rfl
    · simp at hu
  subst hi0
  have hu' : Value.int .u32 p = u := by simpa using hu
  subst hu'
  obtain ⟨hj, rfl⟩ := List.getElem?_eq_some_iff.1 hp
  have := (cell h j hj).1
  have e : (⟨X.g, X.pre.length, none⟩ : Addr).add (j * (Kd.int .u32).sz + 0) = ⟨X.g, X.pre.length + j, none⟩ := by
    rw [win_add]; simp [Kd.int, Kd.scalar]
  rw [e, this]
  simp [rd, hj]
theorem R_form (h : X.R w base ok v xs) (_hp : 0 < xs.length) : ∃ g cap, v = .slice (some ⟨g, X.pre.length, none⟩) xs.length cap ∧ base ≤ g ∧ g < w.heap.size ∧ ∃ cells, w.heap[g]? = some (.cells cells 43 (0, 0)) := by
  obtain ⟨g, cap, he, hb, hl, hc⟩ := Kd.R_form h.2.2.2 (by simp; omega)
  injection he with h1 h2 h3
  injection h1 with h1
  injection h1 with h1
  subst h1
  exact ⟨_, _, h.2.1, hb, hl, hc⟩
theorem R_celln {g n cap : Nat} (h : X.R w base ok (.slice (some ⟨g, X.pre.length, none⟩) n cap) xs) (i : Int) (h0 : 0 ≤ i) (hi : i < n) : w.cell? ⟨g, X.pre.length + i.toNat, none⟩ = some (.int .u32 (rd xs i)) ∧ w.frozen? ⟨g, X.pre.length + i.toNat, none⟩ = false := by
  obtain ⟨h1, rfl, rfl⟩ := shape h
  injection h1 with h1
  injection h1 with h1
  subst h1
  have := cell h i.toNat (by omega)
  rwa [show ((i.toNat : Nat) : Int) = i by omega] at this
theorem R_putg {g n cap : Nat} (h : X.R w base ok (.slice (some ⟨g, X.pre.length, none⟩) n cap) xs) (i : Int) (x : Int) (h0 : 0 ≤ i) (hi : i < n) : X.R (w.setCell ⟨g, X.pre.length + i.toNat, none⟩ (.int .u32 x)) base ok (.slice (some ⟨g, X.pre.length, none⟩) n cap) (xs.set i.toNat x) ∧ w.grownBy (w.setCell ⟨g, X.pre.length + i.toNat, none⟩ (.int .u32 x)) (some g) := by
  obtain ⟨h1, rfl, rfl⟩ := shape h
  injection h1 with h1
  injection h1 with h1
  subst h1
  have := Kd.R_putg h.2.2.2 ((X.pre.length + i.toNat : Nat) : Int) x
  rw [Int.toNat_natCast] at this
  refine ⟨⟨h.1, by rw [List.length_set], by rw [List.length_set]; exact h.2.2.1, ?_⟩, this.2⟩
  have e : (X.pre ++ xs ++ X.suf).set (X.pre.length + i.toNat) x = X.pre ++ xs.set i.toNat x ++ X.suf := by
    rw [List.append_assoc, List.set_append_right _ _ (by omega), Nat.add_sub_cancel_left, List.set_append_left _ _ (by omega), List.append_assoc]
  rw [← e]
  exact this.1
end Wn
end Go.Proofs.YtlfpnohpcemkgaaDoor.H
