/- voklaw2.StampBack. -/
import Derived.Test.YtkeeocidinnnnaaDoorPrs
import Derived.Test.YtkeeocidinnnnaaDoorLongs
namespace Go.Proofs.YtkeeocidinnnnaaDoor
open Go.RowKit
set_option linter.unusedVariables false
theorem parse_eq (s : ByteArray) (r : Int × Int) (h : psV s = r) (w : World) : Calls Tryd.prog 16 #[.string s] w fun e w' => e = .returned (.tuple #[.int .i64 r.1, .int .i64 r.2]) ∧ w = w' := h ▸ parse_any s w
theorem durparse_eq (s : ByteArray) (h1 : 1 ≤ s.size) (h2 : s.size ≤ 2000) (r : Int × Int) (h : dpV s = r) (w : World) (ht : Tab w) : Calls Tryd.prog 20 #[.string s] w fun e w' => e = .returned (.tuple #[.int .i64 r.1, .int .i64 r.2]) ∧ Below w.heap.size w w' := h ▸ durparse_any s h1 h2 w ht
theorem empty_of {s : ByteArray} (h : s.size = 0) : s = ⟨#[]⟩ := by
  obtain ⟨a⟩ := s
  have : a.size = 0 := h
  rw [Array.eq_empty_of_size_eq_zero this]
theorem durparse_empty (w : World) : Calls Tryd.prog 20 #[.string ⟨#[]⟩] w fun e w' => e = .returned (.tuple #[.int .i64 0, .int .i64 2]) ∧ w = w' := by
  go_enter Tryd.func20, Tryd.ntmps20
  go_wp2_with fail
  go_ret2
  exact ⟨rfl, rfl⟩
set_option maxRecDepth 100000 in
set_option maxHeartbeats 4000000 in
theorem stampBack_true {t n : Int} {s d : ByteArray} {w : World} (ht : Tab w) (t1 : -9223372036854775808 ≤ t) (t2 : t ≤ 9223372036854775807) :
    Calls Tryd.prog 8 #[.int .i64 t, .int .i64 n, .string s, .string d] w fun e w' => e = .returned (.bool true) ∧ Below w.heap.size w w' := by
  have hba := ba_app
  by_cases q1 : (2000 : Int) < (s.size : Int)
  · have q1t := decide_eq_true q1
    go_enter Tryd.func8, Tryd.ntmps8
    go_wp2_with fail
    have b := Below.refl w.heap.size w
    refine (first_any _ ht).mono ?_
    rintro e wz ⟨rfl, bb⟩
    replace ht := ht.below bb
    replace b := b.trans (bb.mono b.size)
    clear bb
    go_wp2_with fail
    refine (first_any _ ht).mono ?_
    rintro e wz ⟨rfl, bb⟩
    replace ht := ht.below bb
    replace b := b.trans (bb.mono b.size)
    clear bb
    go_wp2_with fail
    go_ret
    exact ⟨rfl, b⟩
  · have q1t := decide_eq_false q1
    by_cases q2 : (2000 : Int) < (d.size : Int)
    · have q2t := decide_eq_true q2
      go_enter Tryd.func8, Tryd.ntmps8
      go_wp2_with fail
      have b := Below.refl w.heap.size w
      refine (first_any _ ht).mono ?_
      rintro e wz ⟨rfl, bb⟩
      replace ht := ht.below bb
      replace b := b.trans (bb.mono b.size)
      clear bb
      go_wp2_with fail
      refine (first_any _ ht).mono ?_
      rintro e wz ⟨rfl, bb⟩
      replace ht := ht.below bb
      replace b := b.trans (bb.mono b.size)
      clear bb
      go_wp2_with fail
      go_ret
      exact ⟨rfl, b⟩
    · have q2t := decide_eq_false q2
      have hd2 : d.size ≤ 2000 := by omega
      have hMy := may_any t
      by_cases p : MayT t
      · rw [decide_eq_true p] at hMy
        go_enter Tryd.func8, Tryd.ntmps8
        go_wp2_with fail
        have b := Below.refl w.heap.size w
        refine (first_any _ ht).mono ?_
        rintro e wz ⟨rfl, bb⟩
        replace ht := ht.below bb
        replace b := b.trans (bb.mono b.size)
        clear bb
        go_wp2_with fail
        refine (text_yes t p _ ht).mono ?_
        rintro e wz ⟨y, m, dd, v, nn, rfl, bb⟩
        replace ht := ht.below bb
        replace b := b.trans (bb.mono b.size)
        clear bb
        have hV := psV_txt (t := t) v nn
        have lX := txt_len (t := t) v
        generalize txt y m dd (t % 86400) = X at hV lX ⊢
        have hX := Lib.hid hV
        clear hV v nn
        go_wp2_with fail
        refine (hMy _).mono ?_
        rintro e w9 ⟨rfl, rfl⟩
        go_wp2_with fail
        refine (parse_eq _ _ hX.out _).mono ?_
        rintro e w9 ⟨rfl, rfl⟩
        clear hX hMy
        go_wp2_with fail
        by_cases g : 1 ≤ n ∧ n ≤ 2147483648
        · refine (dur_yes n g.1 g.2 _ ht).mono ?_
          rintro e wz ⟨rfl, bb⟩
          replace ht := ht.below bb
          replace b := b.trans (bb.mono b.size)
          clear bb
          go_wp2_with fail
          refine (durparse_dur n g.1 g.2 _ rfl _ ht).mono ?_
          rintro e wz ⟨rfl, bb⟩
          replace ht := ht.below bb
          replace b := b.trans (bb.mono b.size)
          clear bb
          generalize dur n = D
          go_wp2_with fail
          rcases psV_cases s with ⟨u, y, m, dd, pu, v, nn, hs, hV⟩ | ⟨c, hV, hc⟩
          · refine (parse_eq s _ hV _).mono ?_
            rintro e w9 ⟨rfl, rfl⟩
            subst hs
            clear hV
            go_wp2_with fail
            refine (text_yes u pu _ ht).mono ?_
            rintro e wz ⟨y2, m2, d2, v2, n2, rfl, bb⟩
            replace ht := ht.below bb
            replace b := b.trans (bb.mono b.size)
            clear bb
            obtain ⟨rfl, rfl, rfl⟩ := Civ.num_inj v2 v (n2.trans nn.symm)
            clear n2 v2 v nn
            generalize txt y2 m2 d2 (u % 86400) = Y
            go_wp2_with fail
            rcases Nat.eq_zero_or_pos d.size with z | z
            · obtain rfl := empty_of z
              refine (durparse_empty _).mono ?_
              rintro e w9 ⟨rfl, rfl⟩
              go_wp2_with fail
              refine (first_any _ ht).mono ?_
              rintro e wz ⟨rfl, bb⟩
              replace ht := ht.below bb
              replace b := b.trans (bb.mono b.size)
              clear bb
              go_wp2_with fail
              go_ret
              exact ⟨rfl, b⟩
            · rcases dpV_cases d with ⟨k, k1, k2, hd, hk⟩ | ⟨-, hk⟩
              · refine (durparse_eq d z hd2 _ hk _ ht).mono ?_
                rintro e wz ⟨rfl, bb⟩
                replace ht := ht.below bb
                replace b := b.trans (bb.mono b.size)
                clear bb
                subst hd
                clear hk z hd2
                go_wp2_with fail
                refine (dur_yes k k1 k2 _ ht).mono ?_
                rintro e wz ⟨rfl, bb⟩
                replace ht := ht.below bb
                replace b := b.trans (bb.mono b.size)
                clear bb
                go_wp2_with fail
                refine (first_any _ ht).mono ?_
                rintro e wz ⟨rfl, bb⟩
                replace ht := ht.below bb
                replace b := b.trans (bb.mono b.size)
                clear bb
                go_wp2_with fail
                go_ret
                exact ⟨rfl, b⟩
              · refine (durparse_eq d z hd2 _ hk _ ht).mono ?_
                rintro e wz ⟨rfl, bb⟩
                replace ht := ht.below bb
                replace b := b.trans (bb.mono b.size)
                clear bb
                go_wp2_with fail
                refine (first_any _ ht).mono ?_
                rintro e wz ⟨rfl, bb⟩
                replace ht := ht.below bb
                replace b := b.trans (bb.mono b.size)
                clear bb
                go_wp2_with fail
                go_ret
                exact ⟨rfl, b⟩
          · have ct : (c == 0) = false := by rw [beq_eq_false_iff_ne]; omega
            clear hc
            refine (parse_eq s _ hV _).mono ?_
            rintro e w9 ⟨rfl, rfl⟩
            clear hV
            go_wp2_with fail
            rcases Nat.eq_zero_or_pos d.size with z | z
            · obtain rfl := empty_of z
              refine (durparse_empty _).mono ?_
              rintro e w9 ⟨rfl, rfl⟩
              go_wp2_with fail
              refine (first_any _ ht).mono ?_
              rintro e wz ⟨rfl, bb⟩
              replace ht := ht.below bb
              replace b := b.trans (bb.mono b.size)
              clear bb
              go_wp2_with fail
              go_ret
              exact ⟨rfl, b⟩
            · rcases dpV_cases d with ⟨k, k1, k2, hd, hk⟩ | ⟨-, hk⟩
              · refine (durparse_eq d z hd2 _ hk _ ht).mono ?_
                rintro e wz ⟨rfl, bb⟩
                replace ht := ht.below bb
                replace b := b.trans (bb.mono b.size)
                clear bb
                subst hd
                clear hk z hd2
                go_wp2_with fail
                refine (dur_yes k k1 k2 _ ht).mono ?_
                rintro e wz ⟨rfl, bb⟩
                replace ht := ht.below bb
                replace b := b.trans (bb.mono b.size)
                clear bb
                go_wp2_with fail
                refine (first_any _ ht).mono ?_
                rintro e wz ⟨rfl, bb⟩
                replace ht := ht.below bb
                replace b := b.trans (bb.mono b.size)
                clear bb
                go_wp2_with fail
                go_ret
                exact ⟨rfl, b⟩
              · refine (durparse_eq d z hd2 _ hk _ ht).mono ?_
                rintro e wz ⟨rfl, bb⟩
                replace ht := ht.below bb
                replace b := b.trans (bb.mono b.size)
                clear bb
                go_wp2_with fail
                refine (first_any _ ht).mono ?_
                rintro e wz ⟨rfl, bb⟩
                replace ht := ht.below bb
                replace b := b.trans (bb.mono b.size)
                clear bb
                go_wp2_with fail
                go_ret
                exact ⟨rfl, b⟩
        · refine (dur_no n g _).mono ?_
          rintro e w9 ⟨rfl, rfl⟩
          go_wp2_with fail
          rcases psV_cases s with ⟨u, y, m, dd, pu, v, nn, hs, hV⟩ | ⟨c, hV, hc⟩
          · refine (parse_eq s _ hV _).mono ?_
            rintro e w9 ⟨rfl, rfl⟩
            subst hs
            clear hV
            go_wp2_with fail
            refine (text_yes u pu _ ht).mono ?_
            rintro e wz ⟨y2, m2, d2, v2, n2, rfl, bb⟩
            replace ht := ht.below bb
            replace b := b.trans (bb.mono b.size)
            clear bb
            obtain ⟨rfl, rfl, rfl⟩ := Civ.num_inj v2 v (n2.trans nn.symm)
            clear n2 v2 v nn
            generalize txt y2 m2 d2 (u % 86400) = Y
            go_wp2_with fail
            rcases Nat.eq_zero_or_pos d.size with z | z
            · obtain rfl := empty_of z
              refine (durparse_empty _).mono ?_
              rintro e w9 ⟨rfl, rfl⟩
              go_wp2_with fail
              refine (first_any _ ht).mono ?_
              rintro e wz ⟨rfl, bb⟩
              replace ht := ht.below bb
              replace b := b.trans (bb.mono b.size)
              clear bb
              go_wp2_with fail
              go_ret
              exact ⟨rfl, b⟩
            · rcases dpV_cases d with ⟨k, k1, k2, hd, hk⟩ | ⟨-, hk⟩
              · refine (durparse_eq d z hd2 _ hk _ ht).mono ?_
                rintro e wz ⟨rfl, bb⟩
                replace ht := ht.below bb
                replace b := b.trans (bb.mono b.size)
                clear bb
                subst hd
                clear hk z hd2
                go_wp2_with fail
                refine (dur_yes k k1 k2 _ ht).mono ?_
                rintro e wz ⟨rfl, bb⟩
                replace ht := ht.below bb
                replace b := b.trans (bb.mono b.size)
                clear bb
                go_wp2_with fail
                refine (first_any _ ht).mono ?_
                rintro e wz ⟨rfl, bb⟩
                replace ht := ht.below bb
                replace b := b.trans (bb.mono b.size)
                clear bb
                go_wp2_with fail
                go_ret
                exact ⟨rfl, b⟩
              · refine (durparse_eq d z hd2 _ hk _ ht).mono ?_
                rintro e wz ⟨rfl, bb⟩
                replace ht := ht.below bb
                replace b := b.trans (bb.mono b.size)
                clear bb
                go_wp2_with fail
                refine (first_any _ ht).mono ?_
                rintro e wz ⟨rfl, bb⟩
                replace ht := ht.below bb
                replace b := b.trans (bb.mono b.size)
                clear bb
                go_wp2_with fail
                go_ret
                exact ⟨rfl, b⟩
          · have ct : (c == 0) = false := by rw [beq_eq_false_iff_ne]; omega
            clear hc
            refine (parse_eq s _ hV _).mono ?_
            rintro e w9 ⟨rfl, rfl⟩
            clear hV
            go_wp2_with fail
            rcases Nat.eq_zero_or_pos d.size with z | z
            · obtain rfl := empty_of z
              refine (durparse_empty _).mono ?_
              rintro e w9 ⟨rfl, rfl⟩
              go_wp2_with fail
              refine (first_any _ ht).mono ?_
              rintro e wz ⟨rfl, bb⟩
              replace ht := ht.below bb
              replace b := b.trans (bb.mono b.size)
              clear bb
              go_wp2_with fail
              go_ret
              exact ⟨rfl, b⟩
            · rcases dpV_cases d with ⟨k, k1, k2, hd, hk⟩ | ⟨-, hk⟩
              · refine (durparse_eq d z hd2 _ hk _ ht).mono ?_
                rintro e wz ⟨rfl, bb⟩
                replace ht := ht.below bb
                replace b := b.trans (bb.mono b.size)
                clear bb
                subst hd
                clear hk z hd2
                go_wp2_with fail
                refine (dur_yes k k1 k2 _ ht).mono ?_
                rintro e wz ⟨rfl, bb⟩
                replace ht := ht.below bb
                replace b := b.trans (bb.mono b.size)
                clear bb
                go_wp2_with fail
                refine (first_any _ ht).mono ?_
                rintro e wz ⟨rfl, bb⟩
                replace ht := ht.below bb
                replace b := b.trans (bb.mono b.size)
                clear bb
                go_wp2_with fail
                go_ret
                exact ⟨rfl, b⟩
              · refine (durparse_eq d z hd2 _ hk _ ht).mono ?_
                rintro e wz ⟨rfl, bb⟩
                replace ht := ht.below bb
                replace b := b.trans (bb.mono b.size)
                clear bb
                go_wp2_with fail
                refine (first_any _ ht).mono ?_
                rintro e wz ⟨rfl, bb⟩
                replace ht := ht.below bb
                replace b := b.trans (bb.mono b.size)
                clear bb
                go_wp2_with fail
                go_ret
                exact ⟨rfl, b⟩
      · rw [decide_eq_false p] at hMy
        go_enter Tryd.func8, Tryd.ntmps8
        go_wp2_with fail
        have b := Below.refl w.heap.size w
        refine (first_any _ ht).mono ?_
        rintro e wz ⟨rfl, bb⟩
        replace ht := ht.below bb
        replace b := b.trans (bb.mono b.size)
        clear bb
        go_wp2_with fail
        refine (text_no t p t1 t2 _).mono ?_
        rintro e w9 ⟨rfl, rfl⟩
        go_wp2_with fail
        refine (hMy _).mono ?_
        rintro e w9 ⟨rfl, rfl⟩
        go_wp2_with fail
        clear hMy
        by_cases g : 1 ≤ n ∧ n ≤ 2147483648
        · refine (dur_yes n g.1 g.2 _ ht).mono ?_
          rintro e wz ⟨rfl, bb⟩
          replace ht := ht.below bb
          replace b := b.trans (bb.mono b.size)
          clear bb
          go_wp2_with fail
          refine (durparse_dur n g.1 g.2 _ rfl _ ht).mono ?_
          rintro e wz ⟨rfl, bb⟩
          replace ht := ht.below bb
          replace b := b.trans (bb.mono b.size)
          clear bb
          generalize dur n = D
          go_wp2_with fail
          rcases psV_cases s with ⟨u, y, m, dd, pu, v, nn, hs, hV⟩ | ⟨c, hV, hc⟩
          · refine (parse_eq s _ hV _).mono ?_
            rintro e w9 ⟨rfl, rfl⟩
            subst hs
            clear hV
            go_wp2_with fail
            refine (text_yes u pu _ ht).mono ?_
            rintro e wz ⟨y2, m2, d2, v2, n2, rfl, bb⟩
            replace ht := ht.below bb
            replace b := b.trans (bb.mono b.size)
            clear bb
            obtain ⟨rfl, rfl, rfl⟩ := Civ.num_inj v2 v (n2.trans nn.symm)
            clear n2 v2 v nn
            generalize txt y2 m2 d2 (u % 86400) = Y
            go_wp2_with fail
            rcases Nat.eq_zero_or_pos d.size with z | z
            · obtain rfl := empty_of z
              refine (durparse_empty _).mono ?_
              rintro e w9 ⟨rfl, rfl⟩
              go_wp2_with fail
              refine (first_any _ ht).mono ?_
              rintro e wz ⟨rfl, bb⟩
              replace ht := ht.below bb
              replace b := b.trans (bb.mono b.size)
              clear bb
              go_wp2_with fail
              go_ret
              exact ⟨rfl, b⟩
            · rcases dpV_cases d with ⟨k, k1, k2, hd, hk⟩ | ⟨-, hk⟩
              · refine (durparse_eq d z hd2 _ hk _ ht).mono ?_
                rintro e wz ⟨rfl, bb⟩
                replace ht := ht.below bb
                replace b := b.trans (bb.mono b.size)
                clear bb
                subst hd
                clear hk z hd2
                go_wp2_with fail
                refine (dur_yes k k1 k2 _ ht).mono ?_
                rintro e wz ⟨rfl, bb⟩
                replace ht := ht.below bb
                replace b := b.trans (bb.mono b.size)
                clear bb
                go_wp2_with fail
                refine (first_any _ ht).mono ?_
                rintro e wz ⟨rfl, bb⟩
                replace ht := ht.below bb
                replace b := b.trans (bb.mono b.size)
                clear bb
                go_wp2_with fail
                go_ret
                exact ⟨rfl, b⟩
              · refine (durparse_eq d z hd2 _ hk _ ht).mono ?_
                rintro e wz ⟨rfl, bb⟩
                replace ht := ht.below bb
                replace b := b.trans (bb.mono b.size)
                clear bb
                go_wp2_with fail
                refine (first_any _ ht).mono ?_
                rintro e wz ⟨rfl, bb⟩
                replace ht := ht.below bb
                replace b := b.trans (bb.mono b.size)
                clear bb
                go_wp2_with fail
                go_ret
                exact ⟨rfl, b⟩
          · have ct : (c == 0) = false := by rw [beq_eq_false_iff_ne]; omega
            clear hc
            refine (parse_eq s _ hV _).mono ?_
            rintro e w9 ⟨rfl, rfl⟩
            clear hV
            go_wp2_with fail
            rcases Nat.eq_zero_or_pos d.size with z | z
            · obtain rfl := empty_of z
              refine (durparse_empty _).mono ?_
              rintro e w9 ⟨rfl, rfl⟩
              go_wp2_with fail
              refine (first_any _ ht).mono ?_
              rintro e wz ⟨rfl, bb⟩
              replace ht := ht.below bb
              replace b := b.trans (bb.mono b.size)
              clear bb
              go_wp2_with fail
              go_ret
              exact ⟨rfl, b⟩
            · rcases dpV_cases d with ⟨k, k1, k2, hd, hk⟩ | ⟨-, hk⟩
              · refine (durparse_eq d z hd2 _ hk _ ht).mono ?_
                rintro e wz ⟨rfl, bb⟩
                replace ht := ht.below bb
                replace b := b.trans (bb.mono b.size)
                clear bb
                subst hd
                clear hk z hd2
                go_wp2_with fail
                refine (dur_yes k k1 k2 _ ht).mono ?_
                rintro e wz ⟨rfl, bb⟩
                replace ht := ht.below bb
                replace b := b.trans (bb.mono b.size)
                clear bb
                go_wp2_with fail
                refine (first_any _ ht).mono ?_
                rintro e wz ⟨rfl, bb⟩
                replace ht := ht.below bb
                replace b := b.trans (bb.mono b.size)
                clear bb
                go_wp2_with fail
                go_ret
                exact ⟨rfl, b⟩
              · refine (durparse_eq d z hd2 _ hk _ ht).mono ?_
                rintro e wz ⟨rfl, bb⟩
                replace ht := ht.below bb
                replace b := b.trans (bb.mono b.size)
                clear bb
                go_wp2_with fail
                refine (first_any _ ht).mono ?_
                rintro e wz ⟨rfl, bb⟩
                replace ht := ht.below bb
                replace b := b.trans (bb.mono b.size)
                clear bb
                go_wp2_with fail
                go_ret
                exact ⟨rfl, b⟩
        · refine (dur_no n g _).mono ?_
          rintro e w9 ⟨rfl, rfl⟩
          go_wp2_with fail
          rcases psV_cases s with ⟨u, y, m, dd, pu, v, nn, hs, hV⟩ | ⟨c, hV, hc⟩
          · refine (parse_eq s _ hV _).mono ?_
            rintro e w9 ⟨rfl, rfl⟩
            subst hs
            clear hV
            go_wp2_with fail
            refine (text_yes u pu _ ht).mono ?_
            rintro e wz ⟨y2, m2, d2, v2, n2, rfl, bb⟩
            replace ht := ht.below bb
            replace b := b.trans (bb.mono b.size)
            clear bb
            obtain ⟨rfl, rfl, rfl⟩ := Civ.num_inj v2 v (n2.trans nn.symm)
            clear n2 v2 v nn
            generalize txt y2 m2 d2 (u % 86400) = Y
            go_wp2_with fail
            rcases Nat.eq_zero_or_pos d.size with z | z
            · obtain rfl := empty_of z
              refine (durparse_empty _).mono ?_
              rintro e w9 ⟨rfl, rfl⟩
              go_wp2_with fail
              refine (first_any _ ht).mono ?_
              rintro e wz ⟨rfl, bb⟩
              replace ht := ht.below bb
              replace b := b.trans (bb.mono b.size)
              clear bb
              go_wp2_with fail
              go_ret
              exact ⟨rfl, b⟩
            · rcases dpV_cases d with ⟨k, k1, k2, hd, hk⟩ | ⟨-, hk⟩
              · refine (durparse_eq d z hd2 _ hk _ ht).mono ?_
                rintro e wz ⟨rfl, bb⟩
                replace ht := ht.below bb
                replace b := b.trans (bb.mono b.size)
                clear bb
                subst hd
                clear hk z hd2
                go_wp2_with fail
                refine (dur_yes k k1 k2 _ ht).mono ?_
                rintro e wz ⟨rfl, bb⟩
                replace ht := ht.below bb
                replace b := b.trans (bb.mono b.size)
                clear bb
                go_wp2_with fail
                refine (first_any _ ht).mono ?_
                rintro e wz ⟨rfl, bb⟩
                replace ht := ht.below bb
                replace b := b.trans (bb.mono b.size)
                clear bb
                go_wp2_with fail
                go_ret
                exact ⟨rfl, b⟩
              · refine (durparse_eq d z hd2 _ hk _ ht).mono ?_
                rintro e wz ⟨rfl, bb⟩
                replace ht := ht.below bb
                replace b := b.trans (bb.mono b.size)
                clear bb
                go_wp2_with fail
                refine (first_any _ ht).mono ?_
                rintro e wz ⟨rfl, bb⟩
                replace ht := ht.below bb
                replace b := b.trans (bb.mono b.size)
                clear bb
                go_wp2_with fail
                go_ret
                exact ⟨rfl, b⟩
          · have ct : (c == 0) = false := by rw [beq_eq_false_iff_ne]; omega
            clear hc
            refine (parse_eq s _ hV _).mono ?_
            rintro e w9 ⟨rfl, rfl⟩
            clear hV
            go_wp2_with fail
            rcases Nat.eq_zero_or_pos d.size with z | z
            · obtain rfl := empty_of z
              refine (durparse_empty _).mono ?_
              rintro e w9 ⟨rfl, rfl⟩
              go_wp2_with fail
              refine (first_any _ ht).mono ?_
              rintro e wz ⟨rfl, bb⟩
              replace ht := ht.below bb
              replace b := b.trans (bb.mono b.size)
              clear bb
              go_wp2_with fail
              go_ret
              exact ⟨rfl, b⟩
            · rcases dpV_cases d with ⟨k, k1, k2, hd, hk⟩ | ⟨-, hk⟩
              · refine (durparse_eq d z hd2 _ hk _ ht).mono ?_
                rintro e wz ⟨rfl, bb⟩
                replace ht := ht.below bb
                replace b := b.trans (bb.mono b.size)
                clear bb
                subst hd
                clear hk z hd2
                go_wp2_with fail
                refine (dur_yes k k1 k2 _ ht).mono ?_
                rintro e wz ⟨rfl, bb⟩
                replace ht := ht.below bb
                replace b := b.trans (bb.mono b.size)
                clear bb
                go_wp2_with fail
                refine (first_any _ ht).mono ?_
                rintro e wz ⟨rfl, bb⟩
                replace ht := ht.below bb
                replace b := b.trans (bb.mono b.size)
                clear bb
                go_wp2_with fail
                go_ret
                exact ⟨rfl, b⟩
              · refine (durparse_eq d z hd2 _ hk _ ht).mono ?_
                rintro e wz ⟨rfl, bb⟩
                replace ht := ht.below bb
                replace b := b.trans (bb.mono b.size)
                clear bb
                go_wp2_with fail
                refine (first_any _ ht).mono ?_
                rintro e wz ⟨rfl, bb⟩
                replace ht := ht.below bb
                replace b := b.trans (bb.mono b.size)
                clear bb
                go_wp2_with fail
                go_ret
                exact ⟨rfl, b⟩
end Go.Proofs.YtkeeocidinnnnaaDoor
