/- WalAgain: the walk. -/
import Derived.Test.YtkhbpaloicefdaaFirst
namespace Go.Proofs.Ytkhbpaloicefdaa
open Go.RowKit Go.ChangeShapes Go.WideShapes
set_option linter.unusedVariables false
attribute [local go_sem ↓] Go.wp_at_zero Go.wp_at_succ
section
variable {H : Type} {enc : TypeId × Value → H} {W : World}
theorem file_read {fuel : Nat} {a : Option Addr} {len cap : Nat} {x : DataW H × List MemPlace} (h : DataW.trod enc Try.prog W 0 (fun _ => true) true fuel 32 [.slice a len cap] = some x) :
    ∃ l : List Nat, l.length = len ∧ BytesAt W W.heap.size a l ∧ Small l ∧ len ≤ maxLen ∧ Roomy a len cap := by
  obtain ⟨l, h1, h2, h3, h4⟩ := bytes_read h
  refine ⟨l, h1, h2, h3, h4, ?_⟩
  rcases open_ints Try.underlying32 Try.underlying5 (by kernel_rfl) h with ⟨hcs, _⟩ | ⟨b, l, c, zs, hcs, _, hl, hm, _⟩
  · injection hcs with hcs _
    injection hcs with e1 e2 e3
    subst e1 e2 e3
    exact ⟨Nat.le_refl _, by simp, fun _ => rfl⟩
  · injection hcs with hcs _
    injection hcs with e1 e2 e3
    subst e1 e2 e3
    exact ⟨hl, hm, fun e => by cases e⟩
end
theorem joined_total : ∀ (P : List (List Nat)), (joined P).length = total P + 6 * P.length
  | [] => by simp [joined, total]
  | p :: P => by
    have ih := joined_total P
    have e : total (p :: P) = p.length + total P := by simp [total]
    rw [joined_cons, List.length_append, recd_length, List.length_cons, e]
    omega
/-- Rows of one's own read as a list, whatever comes. -/
theorem lists_own {w w' : World} {base base' B c : Nat} {A : Option Addr} {L : List (List Nat)} {xs : List Value} (h : w.ownsRow base 32 1 (.slice A L.length c) L.length xs) (R : RowsIn w base' xs L) (hb : Below B w w') (hB : w.heap.size ≤ B) : w'.ownsRow base 32 1 (.slice A L.length c) L.length xs ∧ RowsIn w' base' xs L :=
  ⟨World.ownsRow.kept h (below_quiet hb hB) (by cases hv : (Value.slice A L.length c).ownBlock <;> simp), R.below hb hB⟩
set_option maxRecDepth 100000 in
set_option maxHeartbeats 16000000 in
theorem again_law (AF : Option Addr) (cF : Nat) (f : List Nat) (AP : Option Addr) (cP : Nat) (P : List (List Nat)) (w : World) (hf : BytesAt w w.heap.size AF f) (hfs : Small f) (hfr : Roomy AF f.length cF) (hp : PsAt w w.heap.size AP P) (hpl : P.length ≤ maxLen) :
    Calls Try.prog 4 #[.slice AF f.length cF, .slice AP P.length cP] w fun e w' => e = .returned (.bool true) ∧ Below w.heap.size w w' := by
  have hpl' := hpl
  unfold maxLen at hpl'
  have hfl : f.length ≤ 9223372036854775807 := Nat.le_trans hfr.le hfr.max
  rcases (show 20000 < f.length ∨ (¬ 20000 < f.length ∧ 300 < P.length) ∨ (¬ 20000 < f.length ∧ ¬ 300 < P.length) by omega) with r1 | ⟨r1, r2⟩ | ⟨r1, r2⟩
  case' inr.inr =>
    go_enter Try.func4, Try.ntmps4
    go_wp2_with fail
    refine (first_any _).mono ?_
    rintro e w1 ⟨rfl, b1⟩
    have hw1 := b1.size
    go_wp2_with fail
    refine (new_yes 1048576 (by omega) (by omega) _).mono ?_
    rintro e w2 ⟨rfl, rfl⟩
    have D1 : DiskAt _ w1.heap.size 1048576 ((0 : Nat) : Int) none 0 [] := DiskAt.new_ w1 1048576
    have b2 := b1.alloc hw1 (.cells #[.int .i64 1048576, .int .i64 0, .slice none 0 0] 62)
    generalize w1.alloc (.cells #[.int .i64 1048576, .int .i64 0, .slice none 0 0] 62) = w2 at D1 b2 ⊢
    obtain ⟨d, hd⟩ : ∃ d, d = w1.heap.size := ⟨_, rfl⟩
    rw [← hd] at D1 hw1 ⊢
    clear hd b1
    have hw2 := b2.size
    go_wp2_with fail
    go_loopw [7, 8] (fun nv iv wr => ∃ j M : Nat, j ≤ P.length ∧ nv = .int .i64 M ∧ iv = .int .i64 j ∧ wr = w2 ∧ M ≤ 20001 * j ∧ M = total (P.take j) ∧ (∀ q ∈ P.take j, q.length ≤ 8192)) (fun _ iv _ => P.length - (intOf iv).toNat)
    case atStart => exact ⟨0, 0, Nat.zero_le _, rfl, rfl, rfl, by omega, by simp [total], by simp⟩
    case round =>
      obtain ⟨j, M, hj, rfl, rfl, rfl, hM, hMt, h8⟩ := hrel
      have H8 := Lib.hid h8
      have HM := Lib.hid hMt
      clear h8 hMt
      by_cases hlt : j < P.length
      · obtain ⟨ad, A1, c1, rfl, hc0, R1, rm1, hbl⟩ := hp.get hlt
        have hcell := (b2.cell hbl).trans hc0
        have i0' : (0 : Int) ≤ (j : Int) := by omega
        have i1' : (j : Int) < (P.length : Int) := by omega
        have hts := Lib.hid (total_snoc hlt)
        have hx := Lib.hid (List.take_succ_eq_append_getElem hlt)
        have hrm1 := rm1.le
        have hrm2 := rm1.max
        clear hc0
        rcases (show 20001 < P[j].length ∨ (¬ 20001 < P[j].length ∧ 8192 < P[j].length) ∨ (¬ 20001 < P[j].length ∧ ¬ 8192 < P[j].length) by omega) with s1 | ⟨s1, s2⟩ | ⟨s1, s2⟩
        · have s2 : 8192 < P[j].length := by omega
          go_wp2_with fail
          refine (first_any _).mono ?_
          rintro e w3 ⟨rfl, b3⟩
          go_wp2_with fail
          go_ret
          exact ⟨rfl, b2.trans (b3.mono hw2)⟩
        · go_wp2_with fail
          refine (first_any _).mono ?_
          rintro e w3 ⟨rfl, b3⟩
          go_wp2_with fail
          go_ret
          exact ⟨rfl, b2.trans (b3.mono hw2)⟩
        · go_wp2_with fail
          go_roundw
          case rel => exact ⟨j + 1, M + P[j].length, by omega, by go_num, by go_num, trivial, by omega, by rw [hts.out, ← HM.out], by rw [hx.out]; exact fun q hq => (List.mem_append.1 hq).elim (H8.out q) (fun h => by simp at h; rw [h]; omega)⟩
          case measure => simp [intOf]; omega
      · obtain rfl : j = P.length := by omega
        have h8 := H8.out
        have hMt := HM.out
        rw [List.take_length] at h8 hMt
        clear H8 HM
        by_cases hbig : 20000 < M
        · clear hMt
          go_wp2_with fail
          refine (first_any _).mono ?_
          rintro e w3 ⟨rfl, b3⟩
          go_wp2_with fail
          go_ret
          exact ⟨rfl, b2.trans (b3.mono hw2)⟩
        · have hjt := joined_total P
          rw [← hMt] at hjt
          have hjP : (joined P).length ≤ 21800 := by omega
          clear hMt hjt
          have hfw : f.length ≤ 20000 := by omega
          have hP3 : P.length ≤ 300 := by omega
          have hps : ∀ q ∈ P, Small q := hp.small
          have K1 := append_new D1 (hf.below b2) hw2 hfr hfs (by simp) (by omega) (by omega) (by omega) (by simp; omega)
          simp only [List.nil_append] at K1
          have hd2 := D1.lt
          go_wp2_with fail
          refine K1.mono ?_
          rintro e w3 ⟨A3, c3, rfl, D3, g3, F3⟩
          have b3 := b2.grown g3 hw2 (fun k e => by injection e with e; omega)
          have hw3 := b3.size
          clear K1 D1 b2 g3 F3
          have K2 := open_any D3 (Nat.zero_le _) (by omega)
          have hEl := scand_le f
          have hRE : (joined (scand f).1).length = (scand f).2 := by rw [scand_take, List.length_take]; omega
          have hmem := scand_mem hfs
          generalize (scand f).2 = E at K2 hEl hRE
          generalize (scand f).1 = R at K2 hRE hmem
          have hR6 := joined_len R
          obtain ⟨X, hX⟩ : ∃ X : Nat, (f.length : Int) - (E : Int) = (X : Int) := ⟨f.length - E, by omega⟩
          rw [hX] at K2
          have hXle : (X : Int) ≤ (f.length : Int) := by omega
          have hR9 : R.length ≤ 4000 := by omega
          go_wp2_with fail
          refine K2.mono ?_
          rintro e w4 ⟨pa, A4, c4, AL4, cL4, xs4, rfl, hpa, hL4, g4⟩
          have H4 := hL4 w.heap.size hw3 hw1
          have b4 := b3.grown g4 hw3 (fun k e => by injection e with e; omega)
          have hw4 := b4.size
          clear K2 hL4 D3 b3 g4
          have K3 := bytes_of H4.disk (by show (joined R).length ≤ _; omega)
          have t2 : decide ((f.length : Int) < (X : Int)) = false := by simp; omega
          have t3 : (((joined R).length : Int) != (f.length : Int) - (X : Int)) = false := by simp; omega
          have hJ4 : (joined R).length ≤ 20000 := by omega
          have HRE := Lib.hid hRE
          have HX := Lib.hid hX
          clear hRE hX
          go_wp2_with fail
          refine K3.mono ?_
          rintro e w5 ⟨A5, c5, rfl, _, b5⟩
          have H5 := H4.quiet (below_quiet2 b5)
          replace b5 := b4.trans (b5.mono hw4)
          have hw5 := b5.size
          clear K3 H4 b4
          have hsc : scand (joined R) = (R, (joined R).length) := scand_whole (fun q hq => (hmem q hq).2)
          have K4 := open_any H5.disk (by show min 0 E ≤ _; omega) (by show (joined R).length ≤ _; omega)
          rw [hsc] at K4
          dsimp only at K4
          rw [Int.sub_self] at K4
          go_wp2_with fail
          refine K4.mono ?_
          rintro e w6 ⟨pb, A6, c6, AL6, cL6, xs6, rfl, hpb, hL6, g6⟩
          have H6 := hL6 w.heap.size hw5 hw1
          have Ha := H5.turn g6 (S' := ⟨1048576, min (min 0 E) (joined R).length, R⟩) rfl H6.disk
          have b6 := b5.grown g6 hw5 (fun k e => by injection e with e; omega)
          have hw6 := b6.size
          clear K4 hL6 H5 b5 g6
          have K5 := log_records Ha (by show R.length ≤ _; omega)
          go_wp2_with fail
          refine K5.mono ?_
          rintro e w7 ⟨A7, c7, y7, rfl, O7, R7, b7⟩
          have H7 := H6.quiet (below_quiet2 b7)
          have b7a := b6.trans (b7.mono hw6)
          have hw7 := b7a.size
          clear K5 Ha H6 b6
          have K6 := log_records H7 (by show R.length ≤ _; omega)
          go_wp2_with fail
          refine K6.mono ?_
          rintro e w8 ⟨A8, c8, y8, rfl, O8, R8, b8⟩
          have H8 := H7.quiet (below_quiet2 b8)
          obtain ⟨O7', R7'⟩ := lists_own O7 R7 b8 (Nat.le_refl _)
          have b8a := b7a.trans (b8.mono hw7)
          have hw8 := b8a.size
          have K7 := lists_same A7 A8 c7 c8 _ _ R w8 (ListsAt.of_own O7' R7') (ListsAt.of_own O8 R8) (fun q hq => (hmem q hq).1) (by omega)
          clear K6 H7 b7 b7a b8 O7 R7
          go_wp2_with fail
          refine K7.mono ?_
          rintro e w9 ⟨rfl, g9⟩
          have H9 := H8.quiet g9
          have b9 := b8a.grown g9 hw8 (by simp)
          have hw9 := b9.size
          clear K7 H8 O7' R7' O8 R8 b8a g9
          have hF9 : Fine ⟨1048576, min (min 0 E) (joined R).length, R⟩ 300000 := ⟨by simp, by simp, by show min (min 0 E) _ ≤ (joined R).length; omega, by show (joined R).length ≤ _; omega⟩
          have K8 := log_check (c2 := cP) H9 hF9 (hp.below b9) (fun _ => Nat.le_refl _) hw9 (by omega) (by omega)
          have e8 : checkL ⟨1048576, min (min 0 E) (joined R).length, R⟩ P = (⟨1048576, (joined P).length, P⟩, 0) := (if_pos h8).trans (if_pos (by show ((joined P).length : Int) ≤ 1048576; omega))
          rw [e8] at K8
          clear e8 hF9
          go_wp2_with fail
          refine K8.mono ?_
          rintro e w10 ⟨A10, c10, AL10, cL10, xs10, rfl, H10, T10⟩
          have b10 := b9.trans (T10.below hw9 hw1 H9.wp H9.lb)
          have hw10 := b10.size
          clear K8 H9 T10 b9
          have K9 := log_records H10 (by show P.length ≤ _; omega)
          go_wp2_with fail
          refine K9.mono ?_
          rintro e w11 ⟨A11, c11, y11, rfl, O11, R11, b11⟩
          have H11 := H10.quiet (below_quiet2 b11)
          have b11a := b10.trans (b11.mono hw10)
          have hw11 := b11a.size
          have K10 := lists_same A11 AP c11 cP _ _ P w11 (ListsAt.of_own O11 R11) (hp.below b11a).lists hps (by omega)
          clear K9 H10 b10 b11
          go_wp2_with fail
          refine K10.mono ?_
          rintro e w12 ⟨rfl, g12⟩
          have H12 := H11.quiet g12
          have b12 := b11a.grown g12 hw11 (by simp)
          have hw12 := b12.size
          clear K10 H11 O11 R11 b11a g12
          have K11 := crash_new H12.disk 0 (by omega) (by omega) (Nat.le_refl _) (by show (joined P).length ≤ _; omega)
          have e11 : left_ (joined P).length (joined P).length 0 = (joined P).length := by unfold left_; omega
          dsimp only at K11
          rw [e11, List.take_length] at K11
          clear e11
          go_wp2_with fail
          refine K11.mono ?_
          rintro e w13 ⟨A13, c13, rfl, D13, g13, F13⟩
          have b13 := b12.grown g13 hw12 (fun k e => by injection e with e; omega)
          have hw13 := b13.size
          clear K11 H12 b12 g13 F13
          have K12 := open_any D13 (Nat.le_refl _) (by omega)
          have hsp : scand (joined P) = (P, (joined P).length) := scand_whole h8
          rw [hsp] at K12
          dsimp only at K12
          rw [Int.sub_self] at K12
          go_wp2_with fail
          refine K12.mono ?_
          rintro e w14 ⟨pc, A14, c14, AL14, cL14, xs14, rfl, hpc, hL14, g14⟩
          have H14 := hL14 w.heap.size hw13 hw1
          have b14 := b13.grown g14 hw13 (fun k e => by injection e with e; omega)
          have hw14 := b14.size
          clear K12 hL14 D13 b13 g14
          go_wp2_with fail
          refine (first_any _).mono ?_
          rintro e w15 ⟨rfl, b15⟩
          have H15 := H14.quiet (below_quiet2 b15)
          have b15a := b14.trans (b15.mono hw14)
          have hw15 := b15a.size
          have K13 := log_records H15 (by show P.length ≤ _; omega)
          go_wp2_with fail
          refine K13.mono ?_
          rintro e w16 ⟨A16, c16, y16, rfl, O16, R16, b16⟩
          have b16a := b15a.trans (b16.mono hw15)
          have hw16 := b16a.size
          have K14 := lists_same A16 AP c16 cP _ _ P w16 (ListsAt.of_own O16 R16) (hp.below b16a).lists hps (by omega)
          go_wp2_with fail
          refine K14.mono ?_
          rintro e w17 ⟨rfl, g17⟩
          have b17 := b16a.grown g17 hw16 (by simp)
          go_wp2_with fail
          go_ret
          exact ⟨rfl, b17⟩
  all_goals
    go_enter Try.func4, Try.ntmps4
    go_wp2_with fail
    refine (first_any _).mono ?_
    rintro e w1 ⟨rfl, b1⟩
    have hw1 := b1.size
    go_wp2_with fail
    refine (new_yes 1048576 (by omega) (by omega) _).mono ?_
    rintro e w2 ⟨rfl, rfl⟩
    have b2 := b1.alloc hw1 (.cells #[.int .i64 1048576, .int .i64 0, .slice none 0 0] 62)
    go_wp2_with fail
    refine (first_any _).mono ?_
    rintro e w3 ⟨rfl, b3⟩
    go_wp2_with fail
    go_ret
    exact ⟨rfl, b2.trans (b3.mono b2.size)⟩
end Go.Proofs.Ytkhbpaloicefdaa
