import Derived.Test.YtlfpnohpcemkgaaDoorHDigit
/- nat.digit over a window of an own row, in the printed shape of a call that is handed the row and the window's two places. -/
namespace Go.Proofs.YtlfpnohpcemkgaaDoor.H
open Go.RowKit Go.Proofs.YtlfpnohpcemkgaaDoorW.PrintWords Go.Proofs.YtlfpnohpcemkgaaDoorW.PrintLast Go.Proofs.YtlfpnohpcemkgaaDoor.PA
/-- One limb of the quotient, and the row behind it. -/
def nat_digitW.f (k : Nat) (l0 : List Int) (lo hi : Int) (l1 : List Int) : Option (Int × List Int) :=
  if 0 ≤ lo ∧ lo < hi ∧ hi ≤ l0.length then (nat_digit.f k ((l0.take hi.toNat).drop lo.toNat) l1).map fun p => (p.1, l0.take lo.toNat ++ p.2 ++ l0.drop hi.toNat) else none
theorem nat_digitW.mono (l0 : List Int) (lo hi : Int) (l1 : List Int) (k : Nat) : LeO (nat_digitW.f k l0 lo hi l1) (nat_digitW.f (k + 1) l0 lo hi l1) := by
  intro r h
  unfold nat_digitW.f at h ⊢
  split at h
  · rename_i hp
    rw [if_pos hp]
    obtain ⟨p, hp1, rfl⟩ := Option.map_eq_some_iff.1 h
    rw [nat_digit.mono _ _ k _ hp1]
    rfl
  · cases h
theorem nat_digitW.calls (k : Nat) (P0_ : Nat → Prop) (u9000_ : Value) (l0 : List Int) (a1 a2 : Int) (A2 : Option Addr) (c2 : Nat) (l2 : List Int) (r1 : Int) (r2 : List Int) (w0 w : World) (hB : Below w0.heap.size w0 w) (ho0 : Kd.R (Kd.int .u32) 43 w w0.heap.size P0_ u9000_ l0) (hr1 : ∀ W_, Kept w W_ (fun k_ => P0_ k_) → Kd.C (Kd.int .u32) W_ A2 l2.length l2) (hc1 : l2.length ≤ c2) (h : nat_digitW.f k l0 a1 a2 l2 = some (r1, r2))
    {Ao A : Option Addr} {co c : Nat} {y : List Int} (hv : u9000_ = .slice Ao l0.length co) (hA : A = (if co = a1.toNat then Ao else Ao.map (·.add (a1.toNat * 1)))) (hy : y = (l0.take a2.toNat).drop a1.toNat) (hyc : y.length ≤ c) :
    Calls Tryd.prog 39 #[.slice A y.length c, .slice A2 l2.length c2] w fun e w' => e = .returned (.int .u32 r1) ∧ Kd.R (Kd.int .u32) 43 w' w0.heap.size (fun k_ => (P0_ k_ ∨ w.heap.size ≤ k_)) u9000_ r2 ∧ Below w0.heap.size w0 w' ∧ Kept w w' (fun k_ => P0_ k_) := by
  unfold nat_digitW.f at h
  split at h
  · rename_i hp
    obtain ⟨h0, hlt, hhi⟩ := hp
    obtain ⟨⟨q, y2⟩, hd, he⟩ := Option.map_eq_some_iff.1 h
    obtain ⟨rfl, rfl⟩ := Prod.mk.inj he
    have hlen : 0 < l0.length := by omega
    obtain ⟨g, cap, he, hb, hl, hcells⟩ := Kd.R_form ho0 hlen
    rw [hv] at he ho0
    injection he with e1 e2 e3
    subst e1 e3
    have hco : co ≠ a1.toNat := by have := (Kd.R_reads' ho0).2.1; omega
    have hAd : A = some ⟨g, a1.toNat, none⟩ := by
      rw [hA, if_neg hco]
      simp only [Option.map_some, Nat.mul_one]
      rw [win_add, Nat.zero_add]
    have hpre : (l0.take a1.toNat).length = a1.toNat := by rw [List.length_take]; omega
    have hsp : l0.take a1.toNat ++ y ++ l0.drop a2.toNat = l0 := by
      rw [hy]
      have e1 : l0.take a1.toNat = (l0.take a2.toNat).take a1.toNat := by rw [List.take_take, Nat.min_eq_left (by omega)]
      rw [e1, List.take_append_drop, List.take_append_drop]
    have hR : (Wn.mk g l0.length co c (l0.take a1.toNat) (l0.drop a2.toNat)).R w w0.heap.size P0_ (.slice A y.length c) y := by
      refine ⟨fun k hk => ho0.1 k ?_, ?_, hyc, ?_⟩
      · rw [hAd] at hk; exact hk
      · rw [hAd]; simp only [hpre]
      · simp only [hsp]; exact ho0
    rw [← hy] at hd
    refine (nat_digit.callsW _ k P0_ _ y A2 c2 l2 q y2 w0 w hB hR hr1 hc1 hd).mono ?_
    rintro e w' ⟨rfl, hR2, hB2, hK2⟩
    refine ⟨rfl, ?_, hB2, hK2⟩
    have hl2 : (l0.take a1.toNat ++ y2 ++ l0.drop a2.toNat).length = l0.length := by
      have := (Kd.R_reads' hR2.2.2.2).1
      exact this.symm
    rw [hv]
    exact hR2.2.2.2
  · cases h
end Go.Proofs.YtlfpnohpcemkgaaDoor.H
