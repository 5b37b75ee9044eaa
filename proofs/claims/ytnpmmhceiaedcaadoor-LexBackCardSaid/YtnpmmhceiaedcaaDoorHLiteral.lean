import Derived.Test.YtnpmmhceiaedcaaDoorHSpan
import Derived.Test.YtnpmmhceiaedcaaDoorHBld
/- lex.literal, in the printed shape: a literal's text, behind its first quote. -/
namespace Go.Proofs.YtnpmmhceiaedcaaDoor.H
open Go.RowKit Go.Proofs.YtnpmmhceiaedcaaDoorW.PrintWords Go.Proofs.YtnpmmhceiaedcaaDoorW.PrintLast Go.Proofs.YtnpmmhceiaedcaaDoor.PA

theorem spanO_range {p : Int → Option Bool} (l : List UInt8) : ∀ (i r : Int), spanO p l i = some r → i ≤ r ∧ r ≤ i + l.length := by
  induction l with
  | nil => intro i r h; obtain rfl := Option.some.inj h; simp
  | cons c l ih =>
    intro i r h
    simp only [spanO] at h
    obtain ⟨b, _, h⟩ := Option.bind_eq_some_iff.1 h
    split at h
    · have := ih _ _ h; simp only [List.length_cons]; omega
    · obtain rfl := Option.some.inj h; simp only [List.length_cons]; omega
/-- What literal answers of the bytes from a place on, behind what was put together. -/
def litF : Nat → List UInt8 → Int → List UInt8 → Option (Int × ByteArray × Int × Int × Int)
  | 0, _, _, _ => none
  | k + 1, l, a, acc => (spanO (fun c => lex_literal_1.f c) l 0).bind fun n => match l.drop n.toNat with
    | [] => some (0, ⟨#[]⟩, 0, 0, 51)
    | c :: r => if c = 34 then (match r with
        | [] => some (6, ⟨(acc ++ l.take n.toNat).toArray⟩, 0, a + n + 2, 0)
        | d :: r' => if d = 34 then litF k r' (a + n + 2) (acc ++ l.take n.toNat ++ [34]) else some (6, ⟨(acc ++ l.take n.toNat).toArray⟩, 0, a + n + 2, 0)) else some (0, ⟨#[]⟩, 0, a + n + 1, 50)
def lex_literal.f (a0 : ByteArray) : Option (Int × ByteArray × Int × Int × Int) := if a0.size ≤ 1000000000000 then litF (a0.size + 1) a0.data.toList 0 [] else none
theorem bt_get (s : ByteArray) (i : Nat) (h : i < s.data.toList.length) : bt s (i : Int) = ((s.data.toList[i]).toNat : Int) := by
  have h' : i < s.size := by rw [← data_length]; exact h
  unfold bt
  rw [dif_pos (by simpa using h')]
  rfl
theorem blk_keep {B gb : Nat} {wa wb w2 : World} {o : Obj} (h : wa.heap[gb]? = some o) (hl : gb < B) (h1 : Below B wa wb) (h2 : Below B wb w2) : w2.heap[gb]? = some o := by
  rw [h2.block gb hl, h1.block gb hl]; exact h
theorem is34 (c : UInt8) : (c = 34) ↔ (c.toNat : Int) = 34 := by
  constructor
  · rintro rfl; rfl
  · intro h
    rw [← UInt8.toNat_inj, show c.toNat = 34 by omega]; rfl
set_option maxHeartbeats 8000000 in
set_option maxRecDepth 100000 in
theorem lex_literal.calls (s : ByteArray) (r1 : Int) (r2 : ByteArray) (r3 : Int) (r4 : Int) (r5 : Int) (w : World) (h : lex_literal.f s = some (r1, r2, r3, r4, r5)) :
    Calls Tryd.prog 32 #[.string s] w fun e w' => e = .returned (.tuple #[.agg #[.int .i64 r1, .string r2, .int .i64 r3], .int .i64 r4, .int .i64 r5]) ∧ Below w.heap.size w w' := by
  unfold lex_literal.f at h
  split at h
  case isFalse => cases h
  case isTrue hs =>
  have hu31 := Tryd.underlying23
  have HB := Aside0.mk (Below.refl w.heap.size w)
  have HS := Aside0.mk hs
  have H0 := Aside0.mk h
  clear h hs
  go_enter Tryd.func32, Tryd.ntmps32
  go_wp2_with (first | ((with_reducible refine gate_dst (N := 2) rfl ?_); refine box_event ?hg (N := 2) ?hd (cs := #[.int .i64 0, .string (⟨#[]⟩ : ByteArray), .int .i64 0]) (t := 23) ?hr ?_; (case hd => rfl); (case hg => rfl); (case hr => first | (go_simp; done) | (go_simp; rfl)); intro gb hg w1 hbox hb; have GB := Aside0.mk hg; have BK := Aside0.mk hbox; have GLT := Aside0.mk (show gb < w1.heap.size from (Array.getElem?_eq_some_iff.1 hbox).1); have GE := Aside0.mk (show w.heap.size ≤ gb from by omega); have n_ := Aside0.mk (below_step HB.out hb); have GS := Aside0.mk hb; clear HB hg hbox hb; have HB := n_; clear n_))
  have HI : Aside0 (Lib.IsBuilder 53 5 w1.heap.size w1.heap.size (Lib.byteCells []) (w1.alloc (.cells #[.pointer none, .slice none 0 0] 53))) := ⟨Lib.fresh_isBuilder 53 5 w1⟩
  go_loopw [6] (fun v6 wr => ∃ (k a : Nat) (acc : List UInt8), v6 = .int .i64 (a : Int) ∧ Aside0 (litF k (s.data.toList.drop a) (a : Int) acc = some (r1, r2, r3, r4, r5)) ∧ Aside0 (a ≤ s.size ∧ acc.length ≤ a) ∧ Aside0 (Lib.IsBuilder 53 5 w1.heap.size w1.heap.size (Lib.byteCells acc) wr) ∧ Aside0 (Below w1.heap.size w1 wr)) (fun v6 _ => s.size - (intOf v6).toNat)
  case atStart => exact ⟨s.size + 1, 0, [], rfl, ⟨by rw [List.drop_zero]; exact H0.out⟩, ⟨Nat.zero_le _, by simp⟩, HI, ⟨below_alloc (Below.refl _ _) _⟩⟩
  case round =>
    clear HI H0
    obtain ⟨k, a, acc, rfl, HA, HL, HBD, HW⟩ := hrel
    cases k with
    | zero => exact absurd HA.out (by simp [litF])
    | succ k =>
    have H := HA.out
    clear HA
    simp only [litF] at H
    obtain ⟨n, hn, H⟩ := Option.bind_eq_some_iff.1 H
    have hrg := spanO_range _ _ _ hn
    obtain ⟨m, rfl⟩ := Int.eq_ofNat_of_zero_le hrg.1
    rw [List.length_drop, data_length] at hrg
    have ha := HL.out.1
    have hs := HS.out
    have ham : a + m ≤ s.size := by omega
    have hex1 : (s.extract a s.size).data.toList = s.data.toList.drop a := by
      rw [Lib.extract_data, List.take_of_length_le (by rw [List.length_drop, data_length]; omega)]
    have hex2 : (s.extract a (a + m)).data.toList = (s.data.toList.drop a).take m := by
      rw [Lib.extract_data, Nat.add_sub_cancel_left]
    have hsp : lex_span_F49.f (s.extract a s.size) = some (m : Int) := by
      unfold lex_span_F49.f
      rw [if_pos (by rw [← data_length, hex1, List.length_drop, data_length]; omega), hex1]
      exact hn
    have HSP := Aside0.mk hsp
    have HX2 := Aside0.mk hex2
    have hz2 : (s.extract a (a + m)).size = m := by rw [← data_length, hex2, List.length_take, List.length_drop, data_length]; omega
    have HZ2 := Aside0.mk hz2
    have HN := Aside0.mk hn
    clear hsp hex1 hex2 hn hz2
    rw [Int.toNat_natCast, List.drop_drop] at H
    have b1 : (a : Int) ≤ (s.size : Int) := by omega
    have b2 : (a : Int) + (m : Int) ≤ (s.size : Int) := by omega
    have b3 : (s.size : Int) ≤ 1000000000000 := by omega
    have b4 : ((0 : Int) ≤ (a : Int) + (m : Int)) = True := eq_true (by omega)
    have b5 : ((a : Int) ≤ (a : Int) + (m : Int)) = True := eq_true (by omega)
    have b6 : ((a : Int) + (m : Int)).toNat = a + m := by omega
    have HAM := Aside0.mk ham
    obtain ⟨L, hL⟩ : ∃ L : List UInt8, L = (s.data.toList.drop a).take m := ⟨_, rfl⟩
    have hLe : s.extract a (a + m) = (⟨L.toArray⟩ : ByteArray) := by
      have e := HX2.out
      rw [← hL] at e
      generalize s.extract a (a + m) = z at e
      obtain ⟨⟨z⟩⟩ := z
      simp only at e
      rw [e]
    rw [← hL] at H
    have HLE := Aside0.mk hLe
    have hLm : L.length = m := by rw [hL, List.length_take, List.length_drop, data_length]; omega
    have HLM := Aside0.mk hLm
    clear hLe hL hLm
    by_cases hend : a + m = s.size
    · rw [List.drop_eq_nil_of_le (by rw [data_length]; omega)] at H
      simp only [Option.some.injEq, Prod.mk.injEq] at H
      obtain ⟨rfl, rfl, rfl, rfl, rfl⟩ := H
      have e1 : ((a : Int) + (m : Int) == (s.size : Int)) = true := by rw [beq_iff_eq]; omega
      clear hend ha hs ham hrg
      go_wp2_with (first | (go_at_call 17; refine (lex_span_F49.calls _ (m : Int) _ HSP.out).mono ?_; rintro e w' ⟨rfl, ⟨nd, rfl⟩⟩) | (go_at_call 38; refine (writeString w1.heap.size w1.heap.size (Lib.byteCells acc) (s.extract a (a + m)) _ (isBuilder_below HBD.out (pw_below_drewN (Below.refl _ _) _)) (by rw [HZ2.out, Lib.byteCells_length]; have := HL.out.2; have := HAM.out; have := HS.out; omega) (by have := HW.out.size; simpa using this)).mono ?_; rintro e w2 ⟨rfl, hbl, hb2⟩; have BK2 := Aside0.mk (blk_keep BK.out GLT.out (pw_below_drewN HW.out _) hb2); have HB2 := Aside0.mk (Below.trans (pw_below_drewN HW.out _) hb2); have HBL : Aside0 (Lib.IsBuilder 53 5 w1.heap.size w1.heap.size (Lib.byteCells (acc ++ L)) w2) := ⟨.inr (by rw [strCells_app, ← HLE.out]; exact hbl)⟩; clear hbl hb2; have z0 : w2.cell? ⟨gb, 0, none⟩ = some (.int .i64 0) := (blk_cell BK2.out 0).trans rfl; have z1 : w2.cell? ⟨gb, 1, none⟩ = some (.string (⟨#[]⟩ : ByteArray)) := (blk_cell BK2.out 1).trans rfl; have z2 : w2.cell? ⟨gb, 2, none⟩ = some (.int .i64 0) := (blk_cell BK2.out 2).trans rfl; have f0 := blk_frozen BK2.out 0; have f1 := blk_frozen BK2.out 1; have f2 := blk_frozen BK2.out 2))
      refine bodyPost_ret (results_ctt rfl _ _ gb 23 #[.int .i64 0, .string (⟨#[]⟩ : ByteArray), .int .i64 0] (0, 0) _ rfl (by refine blk_put (cs := #[.int .i64 0, .string (⟨#[]⟩ : ByteArray), .int .i64 0]) ?_ 2 _ rfl; refine blk_put (cs := #[.int .i64 0, .string (⟨#[]⟩ : ByteArray), .int .i64 0]) ?_ 1 _ rfl; refine blk_put (cs := #[.int .i64 0, .string (⟨#[]⟩ : ByteArray), .int .i64 0]) ?_ 0 _ rfl; exact BK2.out) Tryd.underlying23 rfl (by kernel_rfl)) rfl ?_
      exact ⟨rfl, below_set (below_set (below_set (below_step HB.out HB2.out) GE.out) GE.out) GE.out⟩
    · have hlt : a + m < s.data.toList.length := by rw [data_length]; omega
      rw [List.drop_eq_getElem_cons hlt] at H
      simp only [] at H
      have e1 : ((a : Int) + (m : Int) == (s.size : Int)) = false := by rw [beq_eq_false_iff_ne]; omega
      have q1 : (a : Int) + (m : Int) < (s.size : Int) := by omega
      have q2 : (0 : Int) ≤ (a : Int) + (m : Int) := by omega
      have hb := bt_get s (a + m) hlt
      by_cases hc : s.data.toList[a + m] = 34
      · rw [if_pos hc] at H
        rw [(is34 _).1 hc] at hb
        have hx : ∀ h : a + m < s.size, ((s[a + m]'h).toNat : Int) = 34 := fun h => (bt_at s ((a + m : Nat) : Int) h).trans hb
        by_cases hl1 : a + m + 1 = s.size
        · rw [List.drop_eq_nil_of_le (by rw [data_length]; omega)] at H
          simp only [Option.some.injEq, Prod.mk.injEq] at H
          obtain ⟨rfl, rfl, rfl, rfl, rfl⟩ := H
          have e2 : ((a : Int) + (m : Int) + 1 == (s.size : Int)) = true := by rw [beq_iff_eq]; omega
          clear hend hlt hc hb hl1 ha hs ham hrg
          go_wp2_with (first | (go_at_call 17; refine (lex_span_F49.calls _ (m : Int) _ HSP.out).mono ?_; rintro e w' ⟨rfl, ⟨nd, rfl⟩⟩) | (go_at_call 38; refine (writeString w1.heap.size w1.heap.size (Lib.byteCells acc) (s.extract a (a + m)) _ (isBuilder_below HBD.out (pw_below_drewN (Below.refl _ _) _)) (by rw [HZ2.out, Lib.byteCells_length]; have := HL.out.2; have := HAM.out; have := HS.out; omega) (by have := HW.out.size; simpa using this)).mono ?_; rintro e w2 ⟨rfl, hbl, hb2⟩; have BK2 := Aside0.mk (blk_keep BK.out GLT.out (pw_below_drewN HW.out _) hb2); have HB2 := Aside0.mk (Below.trans (pw_below_drewN HW.out _) hb2); have HBL : Aside0 (Lib.IsBuilder 53 5 w1.heap.size w1.heap.size (Lib.byteCells (acc ++ L)) w2) := ⟨.inr (by rw [strCells_app, ← HLE.out]; exact hbl)⟩; clear hbl hb2) | (go_at_call 40; refine (Tryd.Builder_String_any w1.heap.size w1.heap.size (acc ++ L) _ HBL.out HB2.out.size).mono ?_; rintro e w3 ⟨rfl, hb3⟩; have BK3 := Aside0.mk (blk_keep BK2.out GLT.out (Below.refl _ _) hb3); have HB3 := Aside0.mk (Below.trans HB2.out hb3); clear hb3; have z0 : w3.cell? ⟨gb, 0, none⟩ = some (.int .i64 0) := (blk_cell BK3.out 0).trans rfl; have z1 : w3.cell? ⟨gb, 1, none⟩ = some (.string (⟨#[]⟩ : ByteArray)) := (blk_cell BK3.out 1).trans rfl; have z2 : w3.cell? ⟨gb, 2, none⟩ = some (.int .i64 0) := (blk_cell BK3.out 2).trans rfl; have f0 := blk_frozen BK3.out 0; have f1 := blk_frozen BK3.out 1; have f2 := blk_frozen BK3.out 2))
          refine bodyPost_ret (results_ctt rfl _ _ gb 23 #[.int .i64 6, .string (⟨(acc ++ L).toArray⟩ : ByteArray), .int .i64 0] (0, 0) _ rfl (by refine blk_put (cs := #[.int .i64 6, .string (⟨(acc ++ L).toArray⟩ : ByteArray), .int .i64 0]) ?_ 2 _ rfl; refine blk_put (cs := #[.int .i64 6, .string (⟨#[]⟩ : ByteArray), .int .i64 0]) ?_ 1 _ rfl; refine blk_put (cs := #[.int .i64 0, .string (⟨#[]⟩ : ByteArray), .int .i64 0]) ?_ 0 _ rfl; exact BK3.out) Tryd.underlying23 rfl (by kernel_rfl)) rfl ?_
          exact ⟨rfl, below_set (below_set (below_set (below_step HB.out HB3.out) GE.out) GE.out) GE.out⟩
        · have hlt2 : a + m + 1 < s.data.toList.length := by rw [data_length]; omega
          rw [List.drop_eq_getElem_cons hlt2] at H
          simp only [] at H
          have e2 : ((a : Int) + (m : Int) + 1 == (s.size : Int)) = false := by rw [beq_eq_false_iff_ne]; omega
          have q3 : (a : Int) + (m : Int) + 1 < (s.size : Int) := by omega
          have q4 : (0 : Int) ≤ (a : Int) + (m : Int) + 1 := by omega
          have b7 : ((a : Int) + (m : Int) + 1).toNat = a + m + 1 := by omega
          have hb2 := bt_get s (a + m + 1) hlt2
          by_cases hd : s.data.toList[a + m + 1] = 34
          · rw [if_pos hd] at H
            rw [(is34 _).1 hd] at hb2
            have hy : ∀ h : a + m + 1 < s.size, ((s[a + m + 1]'h).toNat : Int) = 34 := fun h => (bt_at s ((a + m + 1 : Nat) : Int) h).trans hb2
            have H1 := Aside0.mk H
            have HLT := Aside0.mk hlt2
            clear hend hlt hc hb hl1 ha hs ham hrg hlt2 hb2 hd H
            go_wp2_with (first | (go_at_call 17; refine (lex_span_F49.calls _ (m : Int) _ HSP.out).mono ?_; rintro e w' ⟨rfl, ⟨nd, rfl⟩⟩) | (go_at_call 38; refine (writeString w1.heap.size w1.heap.size (Lib.byteCells acc) (s.extract a (a + m)) _ (isBuilder_below HBD.out (pw_below_drewN (Below.refl _ _) _)) (by rw [HZ2.out, Lib.byteCells_length]; have := HL.out.2; have := HAM.out; have := HS.out; omega) (by have := HW.out.size; simpa using this)).mono ?_; rintro e w2 ⟨rfl, hbl, hb2⟩; have BK2 := Aside0.mk (blk_keep BK.out GLT.out (pw_below_drewN HW.out _) hb2); have HB2 := Aside0.mk (Below.trans (pw_below_drewN HW.out _) hb2); have HBL : Aside0 (Lib.IsBuilder 53 5 w1.heap.size w1.heap.size (Lib.byteCells (acc ++ L)) w2) := ⟨.inr (by rw [strCells_app, ← HLE.out]; exact hbl)⟩; clear hbl hb2) | (go_at_call 50; refine (writeByte w1.heap.size w1.heap.size (Lib.byteCells (acc ++ L)) 34 _ HBL.out (by rw [Lib.byteCells_length, List.length_append, HLM.out]; have := HL.out.2; have := HAM.out; have := HS.out; omega) HB2.out.size).mono ?_; rintro e w3 ⟨rfl, hbl3, hb3⟩; have HBL3 := Aside0.mk hbl3; have HB3 := Aside0.mk (Below.trans HB2.out hb3); clear hbl3 hb3))
            go_roundw
            case rel =>
              have hl := HLT.out
              rw [data_length] at hl
              refine ⟨k, a + m + 2, acc ++ L ++ [34], by go_num, ⟨?_⟩, ⟨by omega, ?_⟩, ⟨.inr ?_⟩, HB3⟩
              · have h1 := H1.out
                rw [show (((a + m + 2 : Nat) : Nat) : Int) = (a : Int) + (m : Int) + 2 by omega]
                exact h1
              · have := HL.out.2; have := HLM.out; simp; omega
              · have e9 : Lib.byteCells (acc ++ L ++ [34]) = Lib.byteCells (acc ++ L) ++ [.int .u8 34] := by simp [Lib.byteCells]
                rw [e9]; exact HBL3.out
            case measure =>
              have hl := HLT.out
              rw [data_length] at hl
              simp [intOf]; omega
          · rw [if_neg hd] at H
            simp only [Option.some.injEq, Prod.mk.injEq] at H
            obtain ⟨rfl, rfl, rfl, rfl, rfl⟩ := H
            have hnd : ¬ bt s ((a + m + 1 : Nat) : Int) = 34 := by rw [hb2]; exact fun z => hd ((is34 _).2 z)
            obtain ⟨y, hyy⟩ : ∃ y : Int, y = bt s ((a + m + 1 : Nat) : Int) := ⟨_, rfl⟩
            have hy : ∀ h : a + m + 1 < s.size, ((s[a + m + 1]'h).toNat : Int) = y := fun h => (bt_at s ((a + m + 1 : Nat) : Int) h).trans hyy.symm
            have g1 : (y == 34) = false := by rw [beq_eq_false_iff_ne, hyy]; exact hnd
            have g2 : (y != 34) = true := by rw [bne_iff_ne, hyy]; exact hnd
            clear hend hlt hc hb hl1 ha hs ham hrg hlt2 hb2 hd hnd hyy
            go_wp2_with (first | (go_at_call 17; refine (lex_span_F49.calls _ (m : Int) _ HSP.out).mono ?_; rintro e w' ⟨rfl, ⟨nd, rfl⟩⟩) | (go_at_call 38; refine (writeString w1.heap.size w1.heap.size (Lib.byteCells acc) (s.extract a (a + m)) _ (isBuilder_below HBD.out (pw_below_drewN (Below.refl _ _) _)) (by rw [HZ2.out, Lib.byteCells_length]; have := HL.out.2; have := HAM.out; have := HS.out; omega) (by have := HW.out.size; simpa using this)).mono ?_; rintro e w2 ⟨rfl, hbl, hb2⟩; have BK2 := Aside0.mk (blk_keep BK.out GLT.out (pw_below_drewN HW.out _) hb2); have HB2 := Aside0.mk (Below.trans (pw_below_drewN HW.out _) hb2); have HBL : Aside0 (Lib.IsBuilder 53 5 w1.heap.size w1.heap.size (Lib.byteCells (acc ++ L)) w2) := ⟨.inr (by rw [strCells_app, ← HLE.out]; exact hbl)⟩; clear hbl hb2) | (go_at_call 40; refine (Tryd.Builder_String_any w1.heap.size w1.heap.size (acc ++ L) _ HBL.out HB2.out.size).mono ?_; rintro e w3 ⟨rfl, hb3⟩; have BK3 := Aside0.mk (blk_keep BK2.out GLT.out (Below.refl _ _) hb3); have HB3 := Aside0.mk (Below.trans HB2.out hb3); clear hb3; have z0 : w3.cell? ⟨gb, 0, none⟩ = some (.int .i64 0) := (blk_cell BK3.out 0).trans rfl; have z1 : w3.cell? ⟨gb, 1, none⟩ = some (.string (⟨#[]⟩ : ByteArray)) := (blk_cell BK3.out 1).trans rfl; have z2 : w3.cell? ⟨gb, 2, none⟩ = some (.int .i64 0) := (blk_cell BK3.out 2).trans rfl; have f0 := blk_frozen BK3.out 0; have f1 := blk_frozen BK3.out 1; have f2 := blk_frozen BK3.out 2))
            refine bodyPost_ret (results_ctt rfl _ _ gb 23 #[.int .i64 6, .string (⟨(acc ++ L).toArray⟩ : ByteArray), .int .i64 0] (0, 0) _ rfl (by refine blk_put (cs := #[.int .i64 6, .string (⟨(acc ++ L).toArray⟩ : ByteArray), .int .i64 0]) ?_ 2 _ rfl; refine blk_put (cs := #[.int .i64 6, .string (⟨#[]⟩ : ByteArray), .int .i64 0]) ?_ 1 _ rfl; refine blk_put (cs := #[.int .i64 0, .string (⟨#[]⟩ : ByteArray), .int .i64 0]) ?_ 0 _ rfl; exact BK3.out) Tryd.underlying23 rfl (by kernel_rfl)) rfl ?_
            exact ⟨rfl, below_set (below_set (below_set (below_step HB.out HB3.out) GE.out) GE.out) GE.out⟩
      · rw [if_neg hc] at H
        simp only [Option.some.injEq, Prod.mk.injEq] at H
        obtain ⟨rfl, rfl, rfl, rfl, rfl⟩ := H
        have hnd : ¬ bt s ((a + m : Nat) : Int) = 34 := by rw [hb]; exact fun z => hc ((is34 _).2 z)
        obtain ⟨y, hyy⟩ : ∃ y : Int, y = bt s ((a + m : Nat) : Int) := ⟨_, rfl⟩
        have hy : ∀ h : a + m < s.size, ((s[a + m]'h).toNat : Int) = y := fun h => (bt_at s ((a + m : Nat) : Int) h).trans hyy.symm
        have g1 : (y == 34) = false := by rw [beq_eq_false_iff_ne, hyy]; exact hnd
        have g2 : (y != 34) = true := by rw [bne_iff_ne, hyy]; exact hnd
        clear hend hlt hc hb ha hs ham hrg hnd hyy
        go_wp2_with (first | (go_at_call 17; refine (lex_span_F49.calls _ (m : Int) _ HSP.out).mono ?_; rintro e w' ⟨rfl, ⟨nd, rfl⟩⟩) | (go_at_call 38; refine (writeString w1.heap.size w1.heap.size (Lib.byteCells acc) (s.extract a (a + m)) _ (isBuilder_below HBD.out (pw_below_drewN (Below.refl _ _) _)) (by rw [HZ2.out, Lib.byteCells_length]; have := HL.out.2; have := HAM.out; have := HS.out; omega) (by have := HW.out.size; simpa using this)).mono ?_; rintro e w2 ⟨rfl, hbl, hb2⟩; have BK2 := Aside0.mk (blk_keep BK.out GLT.out (pw_below_drewN HW.out _) hb2); have HB2 := Aside0.mk (Below.trans (pw_below_drewN HW.out _) hb2); have HBL : Aside0 (Lib.IsBuilder 53 5 w1.heap.size w1.heap.size (Lib.byteCells (acc ++ L)) w2) := ⟨.inr (by rw [strCells_app, ← HLE.out]; exact hbl)⟩; clear hbl hb2; have z0 : w2.cell? ⟨gb, 0, none⟩ = some (.int .i64 0) := (blk_cell BK2.out 0).trans rfl; have z1 : w2.cell? ⟨gb, 1, none⟩ = some (.string (⟨#[]⟩ : ByteArray)) := (blk_cell BK2.out 1).trans rfl; have z2 : w2.cell? ⟨gb, 2, none⟩ = some (.int .i64 0) := (blk_cell BK2.out 2).trans rfl; have f0 := blk_frozen BK2.out 0; have f1 := blk_frozen BK2.out 1; have f2 := blk_frozen BK2.out 2))
        refine bodyPost_ret (results_ctt rfl _ _ gb 23 #[.int .i64 0, .string (⟨#[]⟩ : ByteArray), .int .i64 0] (0, 0) _ rfl (by refine blk_put (cs := #[.int .i64 0, .string (⟨#[]⟩ : ByteArray), .int .i64 0]) ?_ 2 _ rfl; refine blk_put (cs := #[.int .i64 0, .string (⟨#[]⟩ : ByteArray), .int .i64 0]) ?_ 1 _ rfl; refine blk_put (cs := #[.int .i64 0, .string (⟨#[]⟩ : ByteArray), .int .i64 0]) ?_ 0 _ rfl; exact BK2.out) Tryd.underlying23 rfl (by kernel_rfl)) rfl ?_
        exact ⟨rfl, below_set (below_set (below_set (below_step HB.out HB2.out) GE.out) GE.out) GE.out⟩
end Go.Proofs.YtnpmmhceiaedcaaDoor.H
