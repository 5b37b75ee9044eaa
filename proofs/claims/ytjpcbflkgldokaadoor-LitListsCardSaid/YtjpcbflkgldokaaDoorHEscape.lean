import Derived.Test.YtjpcbflkgldokaaDoorHFmt
import Derived.Test.YtjpcbflkgldokaaDoorHBld
/- lit.Escape, in the printed shape. -/
namespace Go.Proofs.YtjpcbflkgldokaaDoor.H
open Go.RowKit Go.Proofs.YtjpcbflkgldokaaDoorW.PrintWords Go.Proofs.YtjpcbflkgldokaaDoorW.PrintLast

/-- What one number adds to a literal. -/
def escB (c : Int) : Option (List UInt8) :=
  if 0 ≤ c ∧ c ≤ 196607 then some (if 32 ≤ c ∧ c ≤ 126 ∧ c ≠ 92 then [UInt8.ofNat c.toNat] else [92, 117, 123] ++ hexF 8 c.toNat ++ [125]) else none
def escL : List Int → Option (List UInt8)
  | [] => some []
  | c :: r => (escB c).bind fun x => (escL r).map fun y => x ++ y
def lit_Escape.f (l0 : List Int) : Option (ByteArray × Int) :=
  if l0.length ≤ 1000000000000 then some (match escL l0 with | some x => (⟨x.toArray⟩, 0) | none => (⟨#[]⟩, 1)) else none
theorem hexF_len : ∀ (k n : Nat), (hexF k n).length ≤ k
  | 0, n => by simp [hexF]
  | k + 1, n => by
    unfold hexF
    split
    · simp
    · have := hexF_len k (n / 16); simp; omega
theorem escB_len {c : Int} {x : List UInt8} (h : escB c = some x) : x.length ≤ 12 := by
  unfold escB at h
  split at h
  · obtain rfl := Option.some.inj h
    split
    · simp
    · have := hexF_len 8 c.toNat; simp; omega
  · cases h
theorem escL_snoc (l : List Int) (c : Int) : escL (l ++ [c]) = (escL l).bind fun x => (escB c).map fun y => x ++ y := by
  induction l with
  | nil => simp [escL]
  | cons a r ih =>
    simp only [List.cons_append, escL, ih]
    cases escB a <;> simp
    cases escL r <;> simp
    cases escB c <;> simp
theorem escL_take_none {l : List Int} {k : Nat} (h : escL (l.take k) = none) : escL l = none := by
  rw [← List.take_append_drop k l]
  revert h
  generalize l.take k = a
  generalize l.drop k = b
  intro h
  induction a with
  | nil => simp [escL] at h
  | cons c r ih =>
    simp only [escL, List.cons_append] at h ⊢
    cases hc : escB c with
    | none => simp
    | some x =>
      rw [hc] at h
      simp only [Option.bind_some] at h ⊢
      cases hr : escL r with
      | none => rw [ih hr]; rfl
      | some y => rw [hr] at h; simp at h
set_option maxHeartbeats 1000000 in
set_option maxRecDepth 100000 in
theorem point_yes (c : Int) (h0 : 0 ≤ c) (h1 : c ≤ 196607) (w : World) :
    Calls Tryd.prog 23 #[.int .i64 c] w fun e w' => e = .returned (.bool true) ∧ w' = w := by
  go_enter Tryd.func23, Tryd.ntmps23
  have e1 : decide (0 ≤ c) = true := decide_eq_true h0
  have e2 : decide (c ≤ 196607) = true := decide_eq_true h1
  go_wp2
  go_ret
  exact ⟨rfl, rfl⟩
set_option maxHeartbeats 1000000 in
set_option maxRecDepth 100000 in
theorem point_no (c : Int) (h : ¬ (0 ≤ c ∧ c ≤ 196607)) (w : World) :
    Calls Tryd.prog 23 #[.int .i64 c] w fun e w' => e = .returned (.bool false) ∧ w' = w := by
  by_cases h0 : 0 ≤ c
  · have h1 : ¬ c ≤ 196607 := fun h1 => h ⟨h0, h1⟩
    clear h
    go_enter Tryd.func23, Tryd.ntmps23
    have e1 : decide (0 ≤ c) = true := decide_eq_true h0
    have e2 : decide (c ≤ 196607) = false := decide_eq_false h1
    go_wp2
    go_ret
    exact ⟨rfl, rfl⟩
  · clear h
    go_enter Tryd.func23, Tryd.ntmps23
    have e1 : decide (0 ≤ c) = false := decide_eq_false h0
    go_wp2
    go_ret
    exact ⟨rfl, rfl⟩
set_option maxHeartbeats 4000000 in
set_option maxRecDepth 100000 in
theorem escape_walk (A0 : Option Addr) (c0 : Nat) (l0 : List Int) (w : World) (hG : Glob w) (hr0 : Kd.C (Kd.int .i64) w A0 l0.length l0) (hlen : l0.length ≤ 1000000000000) (r : ByteArray × Int)
    (hr : (match escL l0 with | some x => ((⟨x.toArray⟩ : ByteArray), (0 : Int)) | none => (⟨#[]⟩, 1)) = r) :
    Calls Tryd.prog 14 #[.slice A0 l0.length c0] w fun e w' => e = .returned (.tuple #[.string r.1, .int .i64 r.2]) ∧ Below w.heap.size w w' := by
  have HG := Aside0.mk hG
  have HR0 := Aside0.mk hr0
  have HR := Aside0.mk hr
  have HLEN := Aside0.mk hlen
  clear hG hr0 hr hlen
  have HI : Aside0 (Lib.IsBuilder 48 5 w.heap.size w.heap.size (Lib.byteCells []) (w.alloc (.cells #[.pointer none, .slice none 0 0] 48))) := ⟨Lib.fresh_isBuilder 48 5 w⟩
  go_enter Tryd.func14, Tryd.ntmps14
  go_wp2
  go_loopw [9] (fun v9 wr => ∃ (k : Nat) (x : List UInt8), v9 = .int .i64 (k : Int) ∧ Aside0 (k ≤ l0.length ∧ escL (l0.take k) = some x ∧ x.length ≤ 12 * k) ∧ Aside0 (Lib.IsBuilder 48 5 w.heap.size w.heap.size (Lib.byteCells x) wr) ∧ Aside0 (Below w.heap.size w wr)) (fun v9 _ => l0.length - (intOf v9).toNat)
  case atStart => exact ⟨0, [], rfl, ⟨Nat.zero_le _, rfl, by simp⟩, HI, ⟨below_alloc (Below.refl _ _) _⟩⟩
  case round =>
    obtain ⟨k, x, rfl, HA, HB, HW⟩ := hrel
    have hk := HA.out.1
    by_cases hlt : k < l0.length
    · obtain ⟨c, hc⟩ : ∃ c, c = l0.getD k 0 := ⟨_, rfl⟩
      have HC := Aside0.mk hc
      clear hc
      obtain ⟨ad, rfl, hcell⟩ : ∃ ad, A0 = some ad ∧ wr.cell? (ad.add k) = some (.int .i64 c) := by
        obtain ⟨ad, cs, hA, hs, hR, hcl⟩ := ReadsRow.get_ (Kd.C_below HR0.out HW.out) (0 : Int) (k : Int) (by omega) (by omega)
        refine ⟨ad, hA, ?_⟩
        have e : cs = [Value.int .i64 (l0.getD (k : Int).toNat 0)] := hR
        have := hcl 0 (.int .i64 (l0.getD (k : Int).toNat 0)) (by rw [e]; rfl)
        rw [HC.out]
        simpa [Kd.int, Kd.scalar] using this
      have hne : l0.take (k + 1) = l0.take k ++ [c] := by
        rw [HC.out, List.take_succ_eq_append_getElem hlt, List.getD_eq_getElem?_getD, List.getElem?_eq_getElem hlt]; rfl
      have HN := Aside0.mk hne
      clear hne
      have hx12 : x.length ≤ 12000000000000 := by have := HA.out.2.2; have := HLEN.out; omega
      have hsn : escL (l0.take (k + 1)) = (escB c).map fun y => x ++ y := by rw [HN.out, escL_snoc, HA.out.2.1]; rfl
      have HS := Aside0.mk hsn
      clear hsn
      have hkb : k ≤ 1000000000000 := by have := HLEN.out; omega
      by_cases hp : 0 ≤ c ∧ c ≤ 196607
      · obtain ⟨hp0, hp1⟩ := hp
        by_cases hq : 32 ≤ c ∧ c ≤ 126 ∧ c ≠ 92
        · obtain ⟨hq0, hq1, hq2⟩ := hq
          have e1 : decide (32 ≤ c) = true := decide_eq_true hq0
          have e2 : decide (c ≤ 126) = true := decide_eq_true hq1
          have e3 : (c != 92) = true := by simpa using hq2
          have hb : escB c = some [UInt8.ofNat c.toNat] := by unfold escB; rw [if_pos ⟨hp0, hp1⟩, if_pos ⟨hq0, hq1, hq2⟩]
          have HBY := Aside0.mk hb
          clear hb hq2
          go_wp2_with (first | (go_at_call 23; refine (point_yes c hp0 hp1 _).mono ?_; rintro e w' ⟨rfl, rfl⟩) | (go_at_call 24; refine (writeByte w.heap.size w.heap.size (Lib.byteCells x) c _ HB.out (by rw [Lib.byteCells_length]; omega) HW.out.size).mono ?_; rintro e w1 ⟨rfl, hbl, hbw⟩))
          go_roundw
          case rel =>
            refine ⟨k + 1, x ++ [UInt8.ofNat c.toNat], by go_num, ⟨hlt, by rw [HS.out, HBY.out]; rfl, by have := HA.out.2.2; simp; omega⟩, ⟨.inr ?_⟩, ⟨Below.trans HW.out hbw⟩⟩
            have : Lib.byteCells (x ++ [UInt8.ofNat c.toNat]) = Lib.byteCells x ++ [.int .u8 c] := by
              simp [Lib.byteCells]; omega
            rw [this]; exact hbl
          case measure => simp [intOf]; omega
        · have hb : escB c = some ([92, 117, 123] ++ hexF 8 c.toNat ++ [125]) := by unfold escB; rw [if_pos ⟨hp0, hp1⟩, if_neg hq]
          have HBY := Aside0.mk hb
          clear hb
          have hq3 : (c < 32 ∨ 126 < c) ∨ c = 92 := by omega
          clear hq
          have hh8 := hexF_len 8 c.toNat
          obtain ⟨n, hn⟩ : ∃ n : Nat, c = (n : Int) := ⟨c.toNat, by omega⟩
          obtain ⟨t, ht⟩ : ∃ t : List UInt8, t = hexF 8 n := ⟨_, rfl⟩
          have hts : t.length ≤ 8 := by rw [ht]; exact hexF_len 8 n
          clear hh8
          subst hn
          have HT := Aside0.mk ht
          clear ht
          have hfmt : ∀ W, Glob W → Calls Tryd.prog 26 #[.int .i64 n, .int .i64 16] W fun e w' => e = .returned (.string ⟨t.toArray⟩) ∧ Below W.heap.size W w' := fun W hW => by
            rw [HT.out]; exact formatInt_16 n (by omega) W hW
          have HF := Aside0.mk hfmt
          clear hfmt
          have hs1 : ((⟨#[92, 117, 123]⟩ : ByteArray) ++ ⟨t.toArray⟩ ++ ⟨#[125]⟩) = (⟨([92, 117, 123] ++ t ++ [125]).toArray⟩ : ByteArray) := by
            apply ByteArray.ext; simp
          have HS1 := Aside0.mk hs1
          clear hs1
          rcases hq3 with (h | h) | h
          · have e1 : decide (32 ≤ (n : Int)) = false := decide_eq_false (by omega)
            go_wp2_with (first | (go_at_call 23; refine (point_yes (n : Int) hp0 hp1 _).mono ?_; rintro e w' ⟨rfl, rfl⟩) | (go_at_call 26; refine (HF.out _ (Glob.below HG.out HW.out)).mono ?_; rintro e w1 ⟨rfl, hbw⟩))
            (with_reducible refine (writeString w.heap.size w.heap.size (Lib.byteCells x) (⟨#[92, 117, 123]⟩ ++ ⟨t.toArray⟩ ++ ⟨#[125]⟩) _ (isBuilder_below HB.out hbw) ?hl (Nat.le_trans HW.out.size hbw.size)).mono ?_)
            case hl => rw [HS1.out, Lib.byteCells_length]; simp [ByteArray.size]; omega
            rintro e w2 ⟨rfl, hbl, hb2⟩
            go_wp2
            go_roundw
            case rel =>
              refine ⟨k + 1, x ++ ([92, 117, 123] ++ t ++ [125]), by go_num, ⟨hlt, by rw [HS.out, HBY.out, HT.out]; rfl, by have := HA.out.2.2; simp; omega⟩, ⟨.inr ?_⟩, ⟨Below.trans (Below.trans HW.out (hbw.mono HW.out.size)) hb2⟩⟩
              rw [strCells_app, ← HS1.out]; exact hbl
            case measure => simp [intOf]; omega
          · have e1 : decide (32 ≤ (n : Int)) = true := decide_eq_true (by omega)
            have e2 : decide ((n : Int) ≤ 126) = false := decide_eq_false (by omega)
            go_wp2_with (first | (go_at_call 23; refine (point_yes (n : Int) hp0 hp1 _).mono ?_; rintro e w' ⟨rfl, rfl⟩) | (go_at_call 26; refine (HF.out _ (Glob.below HG.out HW.out)).mono ?_; rintro e w1 ⟨rfl, hbw⟩))
            (with_reducible refine (writeString w.heap.size w.heap.size (Lib.byteCells x) (⟨#[92, 117, 123]⟩ ++ ⟨t.toArray⟩ ++ ⟨#[125]⟩) _ (isBuilder_below HB.out hbw) ?hl (Nat.le_trans HW.out.size hbw.size)).mono ?_)
            case hl => rw [HS1.out, Lib.byteCells_length]; simp [ByteArray.size]; omega
            rintro e w2 ⟨rfl, hbl, hb2⟩
            go_wp2
            go_roundw
            case rel =>
              refine ⟨k + 1, x ++ ([92, 117, 123] ++ t ++ [125]), by go_num, ⟨hlt, by rw [HS.out, HBY.out, HT.out]; rfl, by have := HA.out.2.2; simp; omega⟩, ⟨.inr ?_⟩, ⟨Below.trans (Below.trans HW.out (hbw.mono HW.out.size)) hb2⟩⟩
              rw [strCells_app, ← HS1.out]; exact hbl
            case measure => simp [intOf]; omega
          · have e1 : decide (32 ≤ (n : Int)) = true := decide_eq_true (by omega)
            have e2 : decide ((n : Int) ≤ 126) = true := decide_eq_true (by omega)
            have e3 : ((n : Int) != 92) = false := by simp [h]
            clear h
            go_wp2_with (first | (go_at_call 23; refine (point_yes (n : Int) hp0 hp1 _).mono ?_; rintro e w' ⟨rfl, rfl⟩) | (go_at_call 26; refine (HF.out _ (Glob.below HG.out HW.out)).mono ?_; rintro e w1 ⟨rfl, hbw⟩))
            (with_reducible refine (writeString w.heap.size w.heap.size (Lib.byteCells x) (⟨#[92, 117, 123]⟩ ++ ⟨t.toArray⟩ ++ ⟨#[125]⟩) _ (isBuilder_below HB.out hbw) ?hl (Nat.le_trans HW.out.size hbw.size)).mono ?_)
            case hl => rw [HS1.out, Lib.byteCells_length]; simp [ByteArray.size]; omega
            rintro e w2 ⟨rfl, hbl, hb2⟩
            go_wp2
            go_roundw
            case rel =>
              refine ⟨k + 1, x ++ ([92, 117, 123] ++ t ++ [125]), by go_num, ⟨hlt, by rw [HS.out, HBY.out, HT.out]; rfl, by have := HA.out.2.2; simp; omega⟩, ⟨.inr ?_⟩, ⟨Below.trans (Below.trans HW.out (hbw.mono HW.out.size)) hb2⟩⟩
              rw [strCells_app, ← HS1.out]; exact hbl
            case measure => simp [intOf]; omega
      · have hb : escB c = none := by unfold escB; rw [if_neg hp]
        have HBY := Aside0.mk hb
        clear hb
        have hnone : escL l0 = none := escL_take_none (k := k + 1) (by rw [HS.out, HBY.out]; rfl)
        have HNO := Aside0.mk hnone
        clear hnone
        go_wp2_with (go_at_call 23; refine (point_no c hp _).mono ?_; rintro e w' ⟨rfl, rfl⟩)
        go_ret2
        have := HR.out
        rw [HNO.out] at this
        subst this
        exact ⟨rfl, HW.out⟩
    · have hex : escL l0 = some x := by
        have := HA.out.2.1
        rwa [List.take_of_length_le (by omega)] at this
      have HE := Aside0.mk hex
      clear hex
      go_wp2_with (go_at_call 27; refine (Tryd.Builder_String_any w.heap.size w.heap.size x _ HB.out HW.out.size).mono ?_; rintro e w1 ⟨rfl, hb⟩)
      go_ret2
      have := HR.out
      rw [HE.out] at this
      subst this
      exact ⟨rfl, Below.trans HW.out hb⟩
theorem lit_Escape.calls (A0 : Option Addr) (c0 : Nat) (l0 : List Int) (r1 : ByteArray) (r2 : Int) (w : World) (hG : Glob w) (hr0 : Kd.C (Kd.int .i64) w A0 l0.length l0) (_hc0 : l0.length ≤ c0) (h : lit_Escape.f l0 = some (r1, r2)) :
    Calls Tryd.prog 14 #[.slice A0 l0.length c0] w fun e w' => e = .returned (.tuple #[.string r1, .int .i64 r2]) ∧ Below w.heap.size w w' := by
  unfold lit_Escape.f at h
  split at h
  · exact escape_walk A0 c0 l0 w hG hr0 ‹_› (r1, r2) (Option.some.inj h)
  · cases h
end Go.Proofs.YtjpcbflkgldokaaDoor.H
