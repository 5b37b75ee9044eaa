import Derived.Test.YtnpmmhceiaedcaaDoorPAx1
import Derived.Test.YtnpmmhceiaedcaaDoorPAx1
import Derived.Test.YtnpmmhceiaedcaaDoorPAx1
import Derived.Test.YtnpmmhceiaedcaaDoorPAx1
import Derived.Test.YtnpmmhceiaedcaaDoorPAx1
import Derived.Test.YtnpmmhceiaedcaaDoorPAx1
/- lex.span, in the printed shape, for each function that it is handed: how many bytes at the beginning are of a kind. -/
namespace Go.Proofs.YtnpmmhceiaedcaaDoor.H
open Go.RowKit Go.Proofs.YtnpmmhceiaedcaaDoorW.PrintWords Go.Proofs.YtnpmmhceiaedcaaDoorW.PrintLast Go.Proofs.YtnpmmhceiaedcaaDoor.PA

/-- How many bytes at the beginning are of a kind, behind i others. -/
def spanO (p : Int → Option Bool) : List UInt8 → Int → Option Int
  | [], i => some i
  | c :: r, i => (p c.toNat).bind fun b => if b = true then spanO p r (i + 1) else some i
theorem spanO_all {p : Int → Option Bool} {s : List UInt8} {i : Nat} {r : Int} (hi : ¬ i < s.length) (h : spanO p (s.drop i) (i : Int) = some r) : r = (i : Int) := by
  rw [List.drop_eq_nil_of_le (by omega)] at h
  exact (Option.some.inj h).symm
theorem spanO_at {p : Int → Option Bool} {s : ByteArray} {i : Nat} {r : Int} (hi : i < s.size) (h : spanO p (s.data.toList.drop i) (i : Int) = some r) :
    ∃ b, p (bt s (i : Int)) = some b ∧ (b = true → spanO p (s.data.toList.drop (i + 1)) ((i : Int) + 1) = some r) ∧ (b = false → r = (i : Int)) := by
  have hl : i < s.data.toList.length := by rw [data_length]; exact hi
  rw [List.drop_eq_getElem_cons hl] at h
  simp only [spanO] at h
  have hb : bt s (i : Int) = ((s.data.toList[i]).toNat : Int) := by
    unfold bt
    rw [dif_pos (by simpa using hi)]
    rfl
  obtain ⟨b, hp, h⟩ := Option.bind_eq_some_iff.1 h
  refine ⟨b, by rw [hb]; exact hp, fun z => ?_, fun z => ?_⟩
  · rw [if_pos z] at h; exact h
  · subst z
    exact (Option.some.inj h).symm
def lex_span_F18.f (a0 : ByteArray) : Option Int := if a0.size ≤ 140737488351232 then spanO (fun c => lex_named.f 3 c) a0.data.toList 0 else none
def lex_span_F16.f (a0 : ByteArray) : Option Int := if a0.size ≤ 140737488351232 then spanO (fun c => lex_digit.f c) a0.data.toList 0 else none
def lex_span_F29.f (a0 : ByteArray) : Option Int := if a0.size ≤ 140737488351232 then spanO (fun c => lex_skip_1.f c) a0.data.toList 0 else none
def lex_span_F47.f (a0 : ByteArray) : Option Int := if a0.size ≤ 140737488351232 then spanO (fun c => lex_bars_1.f c) a0.data.toList 0 else none
def lex_span_F49.f (a0 : ByteArray) : Option Int := if a0.size ≤ 140737488351232 then spanO (fun c => lex_literal_1.f c) a0.data.toList 0 else none
def lex_span_F53.f (a0 : ByteArray) : Option Int := if a0.size ≤ 140737488351232 then spanO (fun c => lex_coded_1.f c) a0.data.toList 0 else none
def lex_span_F54.f (a0 : ByteArray) : Option Int := if a0.size ≤ 140737488351232 then spanO (fun c => lex_coded_2.f c) a0.data.toList 0 else none
theorem span_of18 (p : Int → Option Bool) (hp : ∀ (c : Int) (b : Bool) (w : World), p c = some b → Calls Tryd.prog 18 #[.int .u8 c] w fun e w' => e = .returned (.bool b) ∧ Drawn0 w w') (s : ByteArray) (r : Int) (w : World) (hs : s.size ≤ 140737488351232) (h : spanO p s.data.toList 0 = some r) :
    Calls Tryd.prog 17 #[.string s, .func (.func 18) #[] #[]] w fun e w' => e = .returned (.int .i64 r) ∧ Drawn0 w w' := by
  have HP := Aside0.mk hp
  have H0 := Aside0.mk h
  have HS := Aside0.mk hs
  clear hp h hs
  go_enter Tryd.func17, Tryd.ntmps17
  go_wp2
  go_loopw [8] (fun v8 wr => ∃ i : Nat, v8 = .int .i64 (i : Int) ∧ Aside0 (i ≤ s.size) ∧ Aside0 (spanO p (s.data.toList.drop i) (i : Int) = some r) ∧ Aside0 (Drawn0 w wr)) (fun v8 _ => s.size - (intOf v8).toNat)
  case atStart => exact ⟨0, rfl, ⟨Nat.zero_le _⟩, ⟨by rw [List.drop_zero]; exact H0.out⟩, ⟨Drawn0.refl _⟩⟩
  case round =>
    obtain ⟨i, rfl, HI, HR, HD⟩ := hrel
    by_cases hi : i < s.size
    · obtain ⟨b, h1, h2, h3⟩ := spanO_at hi HR.out
      have c1 : decide ((i : Int) < (s.size : Int)) = true := decide_eq_true (by omega)
      have c2 : decide (i < s.size) = true := decide_eq_true hi
      have hkl : (i : Int) < (s.size : Int) := by omega
      have hk0 : (0 : Int) ≤ (i : Int) := by omega
      have hx : ∀ h : i < s.size, ((s[i]'h).toNat : Int) = bt s (i : Int) := fun h => bt_at s (i : Int) h
      have hb62 : (i : Int) < 140737488351232 := by have := HS.out; omega
      have H1 := Aside0.mk h1
      have H2 := Aside0.mk h2
      have H3 := Aside0.mk h3
      clear h1 h2 h3
      cases b with
      | true =>
        go_wp2_with (go_at_call 18; refine (HP.out _ true _ H1.out).mono ?_; rintro e w' ⟨rfl, ⟨nd, rfl⟩⟩)
        go_roundw
        case rel => exact ⟨i + 1, by go_num, ⟨by omega⟩, ⟨by have := H2.out (by first | rfl | trivial); rw [show (((i + 1 : Nat) : Nat) : Int) = (i : Int) + 1 by omega]; exact this⟩, ⟨by repeat (first | exact HD.out | apply Drawn0.step)⟩⟩
        case measure => simp [intOf]; omega
      | false =>
        have hr := H3.out (by first | rfl | trivial)
        subst hr
        go_wp2_with (go_at_call 18; refine (HP.out _ false _ H1.out).mono ?_; rintro e w' ⟨rfl, ⟨nd, rfl⟩⟩)
        go_ret
        exact ⟨rfl, by repeat (first | exact HD.out | apply Drawn0.step)⟩
    · have hr := spanO_all (by rw [data_length]; exact hi) HR.out
      have hie : i = s.size := by have := HI.out; omega
      subst hie
      subst hr
      have c1 : decide ((s.size : Int) < (s.size : Int)) = false := decide_eq_false (by omega)
      have c2 : decide (s.size < s.size) = false := decide_eq_false (by omega)
      go_wp2
      go_ret
      exact ⟨rfl, HD.out⟩
theorem span_of16 (p : Int → Option Bool) (hp : ∀ (c : Int) (b : Bool) (w : World), p c = some b → Calls Tryd.prog 16 #[.int .u8 c] w fun e w' => e = .returned (.bool b) ∧ Drawn0 w w') (s : ByteArray) (r : Int) (w : World) (hs : s.size ≤ 140737488351232) (h : spanO p s.data.toList 0 = some r) :
    Calls Tryd.prog 17 #[.string s, .func (.func 16) #[] #[]] w fun e w' => e = .returned (.int .i64 r) ∧ Drawn0 w w' := by
  have HP := Aside0.mk hp
  have H0 := Aside0.mk h
  have HS := Aside0.mk hs
  clear hp h hs
  go_enter Tryd.func17, Tryd.ntmps17
  go_wp2
  go_loopw [8] (fun v8 wr => ∃ i : Nat, v8 = .int .i64 (i : Int) ∧ Aside0 (i ≤ s.size) ∧ Aside0 (spanO p (s.data.toList.drop i) (i : Int) = some r) ∧ Aside0 (Drawn0 w wr)) (fun v8 _ => s.size - (intOf v8).toNat)
  case atStart => exact ⟨0, rfl, ⟨Nat.zero_le _⟩, ⟨by rw [List.drop_zero]; exact H0.out⟩, ⟨Drawn0.refl _⟩⟩
  case round =>
    obtain ⟨i, rfl, HI, HR, HD⟩ := hrel
    by_cases hi : i < s.size
    · obtain ⟨b, h1, h2, h3⟩ := spanO_at hi HR.out
      have c1 : decide ((i : Int) < (s.size : Int)) = true := decide_eq_true (by omega)
      have c2 : decide (i < s.size) = true := decide_eq_true hi
      have hkl : (i : Int) < (s.size : Int) := by omega
      have hk0 : (0 : Int) ≤ (i : Int) := by omega
      have hx : ∀ h : i < s.size, ((s[i]'h).toNat : Int) = bt s (i : Int) := fun h => bt_at s (i : Int) h
      have hb62 : (i : Int) < 140737488351232 := by have := HS.out; omega
      have H1 := Aside0.mk h1
      have H2 := Aside0.mk h2
      have H3 := Aside0.mk h3
      clear h1 h2 h3
      cases b with
      | true =>
        go_wp2_with (go_at_call 16; refine (HP.out _ true _ H1.out).mono ?_; rintro e w' ⟨rfl, ⟨nd, rfl⟩⟩)
        go_roundw
        case rel => exact ⟨i + 1, by go_num, ⟨by omega⟩, ⟨by have := H2.out (by first | rfl | trivial); rw [show (((i + 1 : Nat) : Nat) : Int) = (i : Int) + 1 by omega]; exact this⟩, ⟨by repeat (first | exact HD.out | apply Drawn0.step)⟩⟩
        case measure => simp [intOf]; omega
      | false =>
        have hr := H3.out (by first | rfl | trivial)
        subst hr
        go_wp2_with (go_at_call 16; refine (HP.out _ false _ H1.out).mono ?_; rintro e w' ⟨rfl, ⟨nd, rfl⟩⟩)
        go_ret
        exact ⟨rfl, by repeat (first | exact HD.out | apply Drawn0.step)⟩
    · have hr := spanO_all (by rw [data_length]; exact hi) HR.out
      have hie : i = s.size := by have := HI.out; omega
      subst hie
      subst hr
      have c1 : decide ((s.size : Int) < (s.size : Int)) = false := decide_eq_false (by omega)
      have c2 : decide (s.size < s.size) = false := decide_eq_false (by omega)
      go_wp2
      go_ret
      exact ⟨rfl, HD.out⟩
theorem span_of29 (p : Int → Option Bool) (hp : ∀ (c : Int) (b : Bool) (w : World), p c = some b → Calls Tryd.prog 29 #[.int .u8 c] w fun e w' => e = .returned (.bool b) ∧ Drawn0 w w') (s : ByteArray) (r : Int) (w : World) (hs : s.size ≤ 140737488351232) (h : spanO p s.data.toList 0 = some r) :
    Calls Tryd.prog 17 #[.string s, .func (.func 29) #[] #[]] w fun e w' => e = .returned (.int .i64 r) ∧ Drawn0 w w' := by
  have HP := Aside0.mk hp
  have H0 := Aside0.mk h
  have HS := Aside0.mk hs
  clear hp h hs
  go_enter Tryd.func17, Tryd.ntmps17
  go_wp2
  go_loopw [8] (fun v8 wr => ∃ i : Nat, v8 = .int .i64 (i : Int) ∧ Aside0 (i ≤ s.size) ∧ Aside0 (spanO p (s.data.toList.drop i) (i : Int) = some r) ∧ Aside0 (Drawn0 w wr)) (fun v8 _ => s.size - (intOf v8).toNat)
  case atStart => exact ⟨0, rfl, ⟨Nat.zero_le _⟩, ⟨by rw [List.drop_zero]; exact H0.out⟩, ⟨Drawn0.refl _⟩⟩
  case round =>
    obtain ⟨i, rfl, HI, HR, HD⟩ := hrel
    by_cases hi : i < s.size
    · obtain ⟨b, h1, h2, h3⟩ := spanO_at hi HR.out
      have c1 : decide ((i : Int) < (s.size : Int)) = true := decide_eq_true (by omega)
      have c2 : decide (i < s.size) = true := decide_eq_true hi
      have hkl : (i : Int) < (s.size : Int) := by omega
      have hk0 : (0 : Int) ≤ (i : Int) := by omega
      have hx : ∀ h : i < s.size, ((s[i]'h).toNat : Int) = bt s (i : Int) := fun h => bt_at s (i : Int) h
      have hb62 : (i : Int) < 140737488351232 := by have := HS.out; omega
      have H1 := Aside0.mk h1
      have H2 := Aside0.mk h2
      have H3 := Aside0.mk h3
      clear h1 h2 h3
      cases b with
      | true =>
        go_wp2_with (go_at_call 29; refine (HP.out _ true _ H1.out).mono ?_; rintro e w' ⟨rfl, ⟨nd, rfl⟩⟩)
        go_roundw
        case rel => exact ⟨i + 1, by go_num, ⟨by omega⟩, ⟨by have := H2.out (by first | rfl | trivial); rw [show (((i + 1 : Nat) : Nat) : Int) = (i : Int) + 1 by omega]; exact this⟩, ⟨by repeat (first | exact HD.out | apply Drawn0.step)⟩⟩
        case measure => simp [intOf]; omega
      | false =>
        have hr := H3.out (by first | rfl | trivial)
        subst hr
        go_wp2_with (go_at_call 29; refine (HP.out _ false _ H1.out).mono ?_; rintro e w' ⟨rfl, ⟨nd, rfl⟩⟩)
        go_ret
        exact ⟨rfl, by repeat (first | exact HD.out | apply Drawn0.step)⟩
    · have hr := spanO_all (by rw [data_length]; exact hi) HR.out
      have hie : i = s.size := by have := HI.out; omega
      subst hie
      subst hr
      have c1 : decide ((s.size : Int) < (s.size : Int)) = false := decide_eq_false (by omega)
      have c2 : decide (s.size < s.size) = false := decide_eq_false (by omega)
      go_wp2
      go_ret
      exact ⟨rfl, HD.out⟩
theorem span_of47 (p : Int → Option Bool) (hp : ∀ (c : Int) (b : Bool) (w : World), p c = some b → Calls Tryd.prog 47 #[.int .u8 c] w fun e w' => e = .returned (.bool b) ∧ Drawn0 w w') (s : ByteArray) (r : Int) (w : World) (hs : s.size ≤ 140737488351232) (h : spanO p s.data.toList 0 = some r) :
    Calls Tryd.prog 17 #[.string s, .func (.func 47) #[] #[]] w fun e w' => e = .returned (.int .i64 r) ∧ Drawn0 w w' := by
  have HP := Aside0.mk hp
  have H0 := Aside0.mk h
  have HS := Aside0.mk hs
  clear hp h hs
  go_enter Tryd.func17, Tryd.ntmps17
  go_wp2
  go_loopw [8] (fun v8 wr => ∃ i : Nat, v8 = .int .i64 (i : Int) ∧ Aside0 (i ≤ s.size) ∧ Aside0 (spanO p (s.data.toList.drop i) (i : Int) = some r) ∧ Aside0 (Drawn0 w wr)) (fun v8 _ => s.size - (intOf v8).toNat)
  case atStart => exact ⟨0, rfl, ⟨Nat.zero_le _⟩, ⟨by rw [List.drop_zero]; exact H0.out⟩, ⟨Drawn0.refl _⟩⟩
  case round =>
    obtain ⟨i, rfl, HI, HR, HD⟩ := hrel
    by_cases hi : i < s.size
    · obtain ⟨b, h1, h2, h3⟩ := spanO_at hi HR.out
      have c1 : decide ((i : Int) < (s.size : Int)) = true := decide_eq_true (by omega)
      have c2 : decide (i < s.size) = true := decide_eq_true hi
      have hkl : (i : Int) < (s.size : Int) := by omega
      have hk0 : (0 : Int) ≤ (i : Int) := by omega
      have hx : ∀ h : i < s.size, ((s[i]'h).toNat : Int) = bt s (i : Int) := fun h => bt_at s (i : Int) h
      have hb62 : (i : Int) < 140737488351232 := by have := HS.out; omega
      have H1 := Aside0.mk h1
      have H2 := Aside0.mk h2
      have H3 := Aside0.mk h3
      clear h1 h2 h3
      cases b with
      | true =>
        go_wp2_with (go_at_call 47; refine (HP.out _ true _ H1.out).mono ?_; rintro e w' ⟨rfl, ⟨nd, rfl⟩⟩)
        go_roundw
        case rel => exact ⟨i + 1, by go_num, ⟨by omega⟩, ⟨by have := H2.out (by first | rfl | trivial); rw [show (((i + 1 : Nat) : Nat) : Int) = (i : Int) + 1 by omega]; exact this⟩, ⟨by repeat (first | exact HD.out | apply Drawn0.step)⟩⟩
        case measure => simp [intOf]; omega
      | false =>
        have hr := H3.out (by first | rfl | trivial)
        subst hr
        go_wp2_with (go_at_call 47; refine (HP.out _ false _ H1.out).mono ?_; rintro e w' ⟨rfl, ⟨nd, rfl⟩⟩)
        go_ret
        exact ⟨rfl, by repeat (first | exact HD.out | apply Drawn0.step)⟩
    · have hr := spanO_all (by rw [data_length]; exact hi) HR.out
      have hie : i = s.size := by have := HI.out; omega
      subst hie
      subst hr
      have c1 : decide ((s.size : Int) < (s.size : Int)) = false := decide_eq_false (by omega)
      have c2 : decide (s.size < s.size) = false := decide_eq_false (by omega)
      go_wp2
      go_ret
      exact ⟨rfl, HD.out⟩
theorem span_of49 (p : Int → Option Bool) (hp : ∀ (c : Int) (b : Bool) (w : World), p c = some b → Calls Tryd.prog 49 #[.int .u8 c] w fun e w' => e = .returned (.bool b) ∧ Drawn0 w w') (s : ByteArray) (r : Int) (w : World) (hs : s.size ≤ 140737488351232) (h : spanO p s.data.toList 0 = some r) :
    Calls Tryd.prog 17 #[.string s, .func (.func 49) #[] #[]] w fun e w' => e = .returned (.int .i64 r) ∧ Drawn0 w w' := by
  have HP := Aside0.mk hp
  have H0 := Aside0.mk h
  have HS := Aside0.mk hs
  clear hp h hs
  go_enter Tryd.func17, Tryd.ntmps17
  go_wp2
  go_loopw [8] (fun v8 wr => ∃ i : Nat, v8 = .int .i64 (i : Int) ∧ Aside0 (i ≤ s.size) ∧ Aside0 (spanO p (s.data.toList.drop i) (i : Int) = some r) ∧ Aside0 (Drawn0 w wr)) (fun v8 _ => s.size - (intOf v8).toNat)
  case atStart => exact ⟨0, rfl, ⟨Nat.zero_le _⟩, ⟨by rw [List.drop_zero]; exact H0.out⟩, ⟨Drawn0.refl _⟩⟩
  case round =>
    obtain ⟨i, rfl, HI, HR, HD⟩ := hrel
    by_cases hi : i < s.size
    · obtain ⟨b, h1, h2, h3⟩ := spanO_at hi HR.out
      have c1 : decide ((i : Int) < (s.size : Int)) = true := decide_eq_true (by omega)
      have c2 : decide (i < s.size) = true := decide_eq_true hi
      have hkl : (i : Int) < (s.size : Int) := by omega
      have hk0 : (0 : Int) ≤ (i : Int) := by omega
      have hx : ∀ h : i < s.size, ((s[i]'h).toNat : Int) = bt s (i : Int) := fun h => bt_at s (i : Int) h
      have hb62 : (i : Int) < 140737488351232 := by have := HS.out; omega
      have H1 := Aside0.mk h1
      have H2 := Aside0.mk h2
      have H3 := Aside0.mk h3
      clear h1 h2 h3
      cases b with
      | true =>
        go_wp2_with (go_at_call 49; refine (HP.out _ true _ H1.out).mono ?_; rintro e w' ⟨rfl, ⟨nd, rfl⟩⟩)
        go_roundw
        case rel => exact ⟨i + 1, by go_num, ⟨by omega⟩, ⟨by have := H2.out (by first | rfl | trivial); rw [show (((i + 1 : Nat) : Nat) : Int) = (i : Int) + 1 by omega]; exact this⟩, ⟨by repeat (first | exact HD.out | apply Drawn0.step)⟩⟩
        case measure => simp [intOf]; omega
      | false =>
        have hr := H3.out (by first | rfl | trivial)
        subst hr
        go_wp2_with (go_at_call 49; refine (HP.out _ false _ H1.out).mono ?_; rintro e w' ⟨rfl, ⟨nd, rfl⟩⟩)
        go_ret
        exact ⟨rfl, by repeat (first | exact HD.out | apply Drawn0.step)⟩
    · have hr := spanO_all (by rw [data_length]; exact hi) HR.out
      have hie : i = s.size := by have := HI.out; omega
      subst hie
      subst hr
      have c1 : decide ((s.size : Int) < (s.size : Int)) = false := decide_eq_false (by omega)
      have c2 : decide (s.size < s.size) = false := decide_eq_false (by omega)
      go_wp2
      go_ret
      exact ⟨rfl, HD.out⟩
theorem span_of53 (p : Int → Option Bool) (hp : ∀ (c : Int) (b : Bool) (w : World), p c = some b → Calls Tryd.prog 53 #[.int .u8 c] w fun e w' => e = .returned (.bool b) ∧ Drawn0 w w') (s : ByteArray) (r : Int) (w : World) (hs : s.size ≤ 140737488351232) (h : spanO p s.data.toList 0 = some r) :
    Calls Tryd.prog 17 #[.string s, .func (.func 53) #[] #[]] w fun e w' => e = .returned (.int .i64 r) ∧ Drawn0 w w' := by
  have HP := Aside0.mk hp
  have H0 := Aside0.mk h
  have HS := Aside0.mk hs
  clear hp h hs
  go_enter Tryd.func17, Tryd.ntmps17
  go_wp2
  go_loopw [8] (fun v8 wr => ∃ i : Nat, v8 = .int .i64 (i : Int) ∧ Aside0 (i ≤ s.size) ∧ Aside0 (spanO p (s.data.toList.drop i) (i : Int) = some r) ∧ Aside0 (Drawn0 w wr)) (fun v8 _ => s.size - (intOf v8).toNat)
  case atStart => exact ⟨0, rfl, ⟨Nat.zero_le _⟩, ⟨by rw [List.drop_zero]; exact H0.out⟩, ⟨Drawn0.refl _⟩⟩
  case round =>
    obtain ⟨i, rfl, HI, HR, HD⟩ := hrel
    by_cases hi : i < s.size
    · obtain ⟨b, h1, h2, h3⟩ := spanO_at hi HR.out
      have c1 : decide ((i : Int) < (s.size : Int)) = true := decide_eq_true (by omega)
      have c2 : decide (i < s.size) = true := decide_eq_true hi
      have hkl : (i : Int) < (s.size : Int) := by omega
      have hk0 : (0 : Int) ≤ (i : Int) := by omega
      have hx : ∀ h : i < s.size, ((s[i]'h).toNat : Int) = bt s (i : Int) := fun h => bt_at s (i : Int) h
      have hb62 : (i : Int) < 140737488351232 := by have := HS.out; omega
      have H1 := Aside0.mk h1
      have H2 := Aside0.mk h2
      have H3 := Aside0.mk h3
      clear h1 h2 h3
      cases b with
      | true =>
        go_wp2_with (go_at_call 53; refine (HP.out _ true _ H1.out).mono ?_; rintro e w' ⟨rfl, ⟨nd, rfl⟩⟩)
        go_roundw
        case rel => exact ⟨i + 1, by go_num, ⟨by omega⟩, ⟨by have := H2.out (by first | rfl | trivial); rw [show (((i + 1 : Nat) : Nat) : Int) = (i : Int) + 1 by omega]; exact this⟩, ⟨by repeat (first | exact HD.out | apply Drawn0.step)⟩⟩
        case measure => simp [intOf]; omega
      | false =>
        have hr := H3.out (by first | rfl | trivial)
        subst hr
        go_wp2_with (go_at_call 53; refine (HP.out _ false _ H1.out).mono ?_; rintro e w' ⟨rfl, ⟨nd, rfl⟩⟩)
        go_ret
        exact ⟨rfl, by repeat (first | exact HD.out | apply Drawn0.step)⟩
    · have hr := spanO_all (by rw [data_length]; exact hi) HR.out
      have hie : i = s.size := by have := HI.out; omega
      subst hie
      subst hr
      have c1 : decide ((s.size : Int) < (s.size : Int)) = false := decide_eq_false (by omega)
      have c2 : decide (s.size < s.size) = false := decide_eq_false (by omega)
      go_wp2
      go_ret
      exact ⟨rfl, HD.out⟩
theorem span_of54 (p : Int → Option Bool) (hp : ∀ (c : Int) (b : Bool) (w : World), p c = some b → Calls Tryd.prog 54 #[.int .u8 c] w fun e w' => e = .returned (.bool b) ∧ Drawn0 w w') (s : ByteArray) (r : Int) (w : World) (hs : s.size ≤ 140737488351232) (h : spanO p s.data.toList 0 = some r) :
    Calls Tryd.prog 17 #[.string s, .func (.func 54) #[] #[]] w fun e w' => e = .returned (.int .i64 r) ∧ Drawn0 w w' := by
  have HP := Aside0.mk hp
  have H0 := Aside0.mk h
  have HS := Aside0.mk hs
  clear hp h hs
  go_enter Tryd.func17, Tryd.ntmps17
  go_wp2
  go_loopw [8] (fun v8 wr => ∃ i : Nat, v8 = .int .i64 (i : Int) ∧ Aside0 (i ≤ s.size) ∧ Aside0 (spanO p (s.data.toList.drop i) (i : Int) = some r) ∧ Aside0 (Drawn0 w wr)) (fun v8 _ => s.size - (intOf v8).toNat)
  case atStart => exact ⟨0, rfl, ⟨Nat.zero_le _⟩, ⟨by rw [List.drop_zero]; exact H0.out⟩, ⟨Drawn0.refl _⟩⟩
  case round =>
    obtain ⟨i, rfl, HI, HR, HD⟩ := hrel
    by_cases hi : i < s.size
    · obtain ⟨b, h1, h2, h3⟩ := spanO_at hi HR.out
      have c1 : decide ((i : Int) < (s.size : Int)) = true := decide_eq_true (by omega)
      have c2 : decide (i < s.size) = true := decide_eq_true hi
      have hkl : (i : Int) < (s.size : Int) := by omega
      have hk0 : (0 : Int) ≤ (i : Int) := by omega
      have hx : ∀ h : i < s.size, ((s[i]'h).toNat : Int) = bt s (i : Int) := fun h => bt_at s (i : Int) h
      have hb62 : (i : Int) < 140737488351232 := by have := HS.out; omega
      have H1 := Aside0.mk h1
      have H2 := Aside0.mk h2
      have H3 := Aside0.mk h3
      clear h1 h2 h3
      cases b with
      | true =>
        go_wp2_with (go_at_call 54; refine (HP.out _ true _ H1.out).mono ?_; rintro e w' ⟨rfl, ⟨nd, rfl⟩⟩)
        go_roundw
        case rel => exact ⟨i + 1, by go_num, ⟨by omega⟩, ⟨by have := H2.out (by first | rfl | trivial); rw [show (((i + 1 : Nat) : Nat) : Int) = (i : Int) + 1 by omega]; exact this⟩, ⟨by repeat (first | exact HD.out | apply Drawn0.step)⟩⟩
        case measure => simp [intOf]; omega
      | false =>
        have hr := H3.out (by first | rfl | trivial)
        subst hr
        go_wp2_with (go_at_call 54; refine (HP.out _ false _ H1.out).mono ?_; rintro e w' ⟨rfl, ⟨nd, rfl⟩⟩)
        go_ret
        exact ⟨rfl, by repeat (first | exact HD.out | apply Drawn0.step)⟩
    · have hr := spanO_all (by rw [data_length]; exact hi) HR.out
      have hie : i = s.size := by have := HI.out; omega
      subst hie
      subst hr
      have c1 : decide ((s.size : Int) < (s.size : Int)) = false := decide_eq_false (by omega)
      have c2 : decide (s.size < s.size) = false := decide_eq_false (by omega)
      go_wp2
      go_ret
      exact ⟨rfl, HD.out⟩
theorem lex_span_F18.calls (a0 : ByteArray) (r : Int) (w : World) (h : lex_span_F18.f a0 = some r) :
    Calls Tryd.prog 17 #[.string a0, .func (.func 18) #[] #[]] w fun e w' => e = .returned (.int .i64 r) ∧ Drawn0 w w' := by
  unfold lex_span_F18.f at h
  split at h
  · exact span_of18 _ (fun c b w hb => lex_named.calls 3 c b w hb) a0 r w ‹_› h
  · cases h
theorem lex_span_F16.calls (a0 : ByteArray) (r : Int) (w : World) (h : lex_span_F16.f a0 = some r) :
    Calls Tryd.prog 17 #[.string a0, .func (.func 16) #[] #[]] w fun e w' => e = .returned (.int .i64 r) ∧ Drawn0 w w' := by
  unfold lex_span_F16.f at h
  split at h
  · exact span_of16 _ (fun c b w hb => lex_digit.calls c b w hb) a0 r w ‹_› h
  · cases h
theorem lex_span_F29.calls (a0 : ByteArray) (r : Int) (w : World) (h : lex_span_F29.f a0 = some r) :
    Calls Tryd.prog 17 #[.string a0, .func (.func 29) #[] #[]] w fun e w' => e = .returned (.int .i64 r) ∧ Drawn0 w w' := by
  unfold lex_span_F29.f at h
  split at h
  · exact span_of29 _ (fun c b w hb => lex_skip_1.calls c b w hb) a0 r w ‹_› h
  · cases h
theorem lex_span_F47.calls (a0 : ByteArray) (r : Int) (w : World) (h : lex_span_F47.f a0 = some r) :
    Calls Tryd.prog 17 #[.string a0, .func (.func 47) #[] #[]] w fun e w' => e = .returned (.int .i64 r) ∧ Drawn0 w w' := by
  unfold lex_span_F47.f at h
  split at h
  · exact span_of47 _ (fun c b w hb => lex_bars_1.calls c b w hb) a0 r w ‹_› h
  · cases h
theorem lex_span_F49.calls (a0 : ByteArray) (r : Int) (w : World) (h : lex_span_F49.f a0 = some r) :
    Calls Tryd.prog 17 #[.string a0, .func (.func 49) #[] #[]] w fun e w' => e = .returned (.int .i64 r) ∧ Drawn0 w w' := by
  unfold lex_span_F49.f at h
  split at h
  · exact span_of49 _ (fun c b w hb => lex_literal_1.calls c b w hb) a0 r w ‹_› h
  · cases h
theorem lex_span_F53.calls (a0 : ByteArray) (r : Int) (w : World) (h : lex_span_F53.f a0 = some r) :
    Calls Tryd.prog 17 #[.string a0, .func (.func 53) #[] #[]] w fun e w' => e = .returned (.int .i64 r) ∧ Drawn0 w w' := by
  unfold lex_span_F53.f at h
  split at h
  · exact span_of53 _ (fun c b w hb => lex_coded_1.calls c b w hb) a0 r w ‹_› h
  · cases h
theorem lex_span_F54.calls (a0 : ByteArray) (r : Int) (w : World) (h : lex_span_F54.f a0 = some r) :
    Calls Tryd.prog 17 #[.string a0, .func (.func 54) #[] #[]] w fun e w' => e = .returned (.int .i64 r) ∧ Drawn0 w w' := by
  unfold lex_span_F54.f at h
  split at h
  · exact span_of54 _ (fun c b w hb => lex_coded_2.calls c b w hb) a0 r w ‹_› h
  · cases h
end Go.Proofs.YtnpmmhceiaedcaaDoor.H
