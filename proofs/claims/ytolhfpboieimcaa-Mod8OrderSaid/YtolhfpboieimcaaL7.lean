/- Mod8: the law Back, walked. -/
import Derived.Test.YtolhfpboieimcaaL3
import Derived.Test.YtolhfpboieimcaaRs
import Derived.Laws.Cover1
namespace Go.Proofs.Ytolhfpboieimcaa
open Go.RowKit Go.Proofs.YtolhfpboieimcaaW.PrintWords Go.Proofs.YtolhfpboieimcaaW.PrintMore
set_option linter.unusedVariables false
set_option linter.unusedSimpArgs false
theorem first_ex (ls : List Int) : ∃ m, m ≤ ls.length ∧ (∀ c ∈ ls.take m, isB c = true) ∧ (m = ls.length ∨ isB (ls.getD m 0) = false) := by
  induction ls with
  | nil => exact ⟨0, Nat.le_refl _, by simp, .inl rfl⟩
  | cons c l ih =>
    obtain ⟨m, h1, h2, h3⟩ := ih
    cases hb : isB c with
    | false => exact ⟨0, Nat.zero_le _, by simp, .inr (by simpa using hb)⟩
    | true =>
      refine ⟨m + 1, by simpa using h1, ?_, ?_⟩
      · intro d hd
        rw [List.take_succ_cons] at hd
        rcases List.mem_cons.1 hd with rfl | h9
        · exact hb
        · exact h2 d h9
      · rcases h3 with h3 | h3
        · exact .inl (by simp [h3])
        · exact .inr (by simpa using h3)
/-- All is read, where all denotes something. -/
theorem read_whole {w w' : World} {g T : Nat} {t : ByteArray} {s0 s : CS} {os : List Int} {en : Ending} (h : ReadPost w g T t s0 en w') (hr : run cnx s0 (bytesOf t) = some (s, os)) (hc : ccut s = false) :
    ∃ r, en = .returned (.tuple #[r, .bool true]) ∧ w'.ownsRow w.heap.size 49 1 r os.length (nums .u32 os) ∧ Kp (fun k => k = g) w w' ∧ os.length ≤ t.size ∧ Dec w' g T t.size 0 0 true nilv [] (cown s) := by
  obtain ⟨m, os2, r, s2, rfl, hm, hrun, ho, hkp, hol, hcs, hend⟩ := h
  have hl := bytesOf_length t
  have hw : m = t.size → s2 = s ∧ os2 = os := by
    intro h0
    rw [h0, List.take_of_length_le (by omega), hr] at hrun
    simp only [Option.some.injEq, Prod.mk.injEq] at hrun
    exact ⟨hrun.1.symm, hrun.2.symm⟩
  rcases hend with ⟨h0, h1, h2⟩ | ⟨h0, h1, h2⟩ | ⟨h0, h1, s', h2⟩
  · obtain ⟨rfl, rfl⟩ := hw h0
    rw [h0] at h2 hol
    exact ⟨r, rfl, ho, hkp, hol, h2⟩
  · obtain ⟨rfl, rfl⟩ := hw h0
    rw [hc] at h1
    cases h1
  · have h3 : run cnx s0 ((bytesOf t).take (m + 1)) = none := by
      rw [take_bt t m h0, run_snoc, hrun, Option.bind_some, h1]; rfl
    have h4 := run_none (m := t.size) (by omega) h3
    rw [List.take_of_length_le (by omega), hr] at h4
    cases h4
theorem back_great (A0 : Option Addr) (n0 c0 : Nat) (A1 A2 : Option Addr) (n1 c1 n2 c2 : Nat) (w : World) (hg : (decide (400 < (n0 : Int)) || (decide (200 < n1) || decide (200 < n2))) = true) :
    Calls Try.prog 8 #[.slice A0 n0 c0, .slice A1 n1 c1, .slice A2 n2 c2] w fun en w' => en = .returned (.bool true) ∧ Below w.heap.size w w' := by
  go_enter Try.func8, Try.ntmps8
  go_wp2_with fail
  refine (awake_any _).mono ?_
  rintro en w2 ⟨rfl, hb2⟩
  have HB2 := Lib.hid hb2
  clear hb2
  go_wp2_with fail
  refine (great_any _ _ _ _ _ _ _ _).mono ?_
  rw [hg]
  rintro en w3 ⟨rfl, rfl⟩
  go_wp2_with fail
  refine (awake_any _).mono ?_
  rintro en w4 ⟨rfl, hb4⟩
  have HB4 := Lib.hid (HB2.out.trans (hb4.mono HB2.out.size))
  clear hb4
  go_wp2_with fail
  go_ret
  exact ⟨rfl, HB4.out⟩
set_option maxHeartbeats 8000000 in
theorem back_walk {w : World} (A0 : Option Addr) (n0 c0 : Nat) (ls : List Int) (hc0 : n0 ≤ c0) (h0 : ReadsInt w .u32 A0 n0 ls) (hwf : ∀ k, 0 ≤ ls.getD k 0 ∧ ls.getD k 0 ≤ 4294967295) (A1 A2 : Option Addr) (n1 c1 n2 c2 : Nat) (ps rs : List Int) (hp : ReadsInt w .i64 A1 n1 ps) (hr : ReadsInt w .i64 A2 n2 rs)
    (hg : (decide (400 < (n0 : Int)) || (decide (200 < n1) || decide (200 < n2))) = false) :
    Calls Try.prog 8 #[.slice A0 n0 c0, .slice A1 n1 c1, .slice A2 n2 c2] w fun en w' => en = .returned (.bool true) ∧ Below w.heap.size w w' := by
  have heq := eqF
  obtain ⟨hz0, hz1, hz2⟩ : n0 ≤ 400 ∧ n1 ≤ 200 ∧ n2 ≤ 200 := by simp at hg; omega
  obtain ⟨m, hm, hsc, hends⟩ := first_ex ls
  have HM := Lib.hid hm
  have HSC := Lib.hid hsc
  have HEND := Lib.hid hends
  have H0 := Lib.hid h0
  have HWF := Lib.hid hwf
  have HP := Lib.hid hp
  have HR := Lib.hid hr
  have H0L := Lib.hid (reads_lt h0)
  have HPL := Lib.hid (reads_lt hp)
  have HRL := Lib.hid (reads_lt hr)
  clear hp hr h0 hwf hm hsc hends
  go_enter Try.func8, Try.ntmps8
  go_wp2_with fail
  refine (awake_any _).mono ?_
  rintro en w2 ⟨rfl, hb2⟩
  have HB2 := Lib.hid hb2
  clear hb2
  go_wp2_with fail
  refine (great_any _ _ _ _ _ _ _ _).mono ?_
  rw [hg]
  rintro en w3 ⟨rfl, rfl⟩
  go_wp2_with fail
  have hf5 := first_any (H0.out.below HB2.out) hc0 (by omega) m HM.out HSC.out HEND.out
  rcases Nat.lt_or_ge m ls.length with h1 | h1
  · rw [if_pos h1] at hf5
    refine hf5.mono ?_
    rintro en w5 ⟨rfl, n5, rfl⟩
    have HB5 := Lib.hid (HB2.out.trans (((Kp.refl (fun _ => False) w2).drewN n5).below (B := w.heap.size) HB2.out.size (fun _ h => h.elim)))
    generalize w2.drewN n5 = w5 at *
    clear hf5 h1
    go_wp2_with fail
    refine (awake_any _).mono ?_
    rintro en w4 ⟨rfl, hb4⟩
    have HB4 := Lib.hid (HB5.out.trans (hb4.mono HB5.out.size))
    clear hb4
    go_wp2_with fail
    go_ret
    exact ⟨rfl, HB4.out⟩
  · rw [if_neg (by omega)] at hf5
    refine hf5.mono ?_
    rintro en w5 ⟨rfl, n5, rfl⟩
    have HB5 := Lib.hid (HB2.out.trans (((Kp.refl (fun _ => False) w2).drewN n5).below (B := w.heap.size) HB2.out.size (fun _ h => h.elim)))
    have HALL : Hid (∀ c ∈ ls, 0 ≤ c ∧ isB c = true) := Lib.hid (fun c hc => ⟨by obtain ⟨k, hk, rfl⟩ := List.mem_iff_getElem.1 hc; have := HWF.out k; rw [List.getD_eq_getElem?_getD, List.getElem?_eq_getElem hk] at this; exact this.1, HSC.out c (by rw [List.take_of_length_le h1]; exact hc)⟩)
    generalize w2.drewN n5 = w5 at *
    clear hf5 h1
    go_wp2_with fail
    refine (newe_any _).mono ?_
    rintro en w6 ⟨rfl, he6, hb6⟩
    have HS5 := Lib.hid HB5.out.size
    generalize hg5 : w5.heap.size = g at *
    have HB6 := Lib.hid (HB5.out.trans (hb6.mono HS5.out))
    have HE6 := Lib.hid he6
    clear he6 hb6 hg5
    go_wp2_with fail
    refine (write_any A0 n0 c0 ls A1 A2 n1 c1 n2 c2 ps rs es0 trivial (by omega) hc0 (by omega) (by omega) (H0.out.below HB6.out) HWF.out (HP.out.below HB6.out) (HR.out.below HB6.out) (fun ad h h0 => by have := H0L.out ad h h0; have := HS5.out; omega) (fun ad h h0 => by have := HPL.out ad h h0; have := HS5.out; omega) (fun ad h h0 => by have := HRL.out ad h h0; have := HS5.out; omega) ⟨#[]⟩ rfl HE6.out).mono ?_
    rintro en w7 h7
    obtain ⟨x, y, rfl, hx, hk7, _⟩ := write_whole h7 HALL.out
    rw [erun_txt _ HALL.out] at hx
    have hxs : x.size ≤ 100000 := by
      have h8 := bytesOf_length x
      have h9 := txt_len ls HALL.out
      rw [hx] at h8
      rw [H0.out.1] at h9
      omega
    have HX := Lib.hid hx
    have HXS := Lib.hid hxs
    have HB7 := Lib.hid (HB6.out.trans (hk7.below (B := w.heap.size) HB6.out.size (fun k hk => by rw [hk]; exact HS5.out)))
    clear h7 hx hk7 hxs
    go_wp2_with fail
    refine (newd_any _).mono ?_
    rintro en w8 ⟨rfl, hd8, hb8⟩
    have HS7 := Lib.hid HB7.out.size
    generalize hg7 : w7.heap.size = g2 at *
    have HB8 := Lib.hid (HB7.out.trans (hb8.mono HS7.out))
    have HD8 := Lib.hid hd8
    clear hd8 hb8 hg7
    go_wp2_with fail
    refine (read_any x A2 A1 n2 c2 n1 c1 rs ps st0 cok0 HXS.out (by omega) (by omega) (HR.out.below HB8.out) (HP.out.below HB8.out) (fun ad h h0 => by have := HRL.out ad h h0; have := HS7.out; omega) (fun ad h h0 => by have := HPL.out ad h h0; have := HS7.out; omega) HD8.out).mono ?_
    rintro en w9 h9
    obtain ⟨sb, hb1, hb2⟩ := back_law ls HALL.out
    obtain ⟨r, rfl, ho9, hk9, _, hd9⟩ := read_whole h9 (by rw [HX.out]; exact hb1) hb2
    clear hb1 hb2
    have HB9 := Lib.hid (HB8.out.trans (hk9.below (B := w.heap.size) HB8.out.size (fun k hk => by rw [hk]; exact HS7.out)))
    obtain ⟨A9, c9, rfl, hle9, _⟩ := own_reads_of_le (enc := fun x => Value.int .u32 x) (d := (0 : Int)) ho9
    have HLE9 := Lib.hid hle9
    have HO9 := Lib.hid (own_reads' ho9)
    have H09 := Lib.hid (H0.out.below HB9.out)
    have HD9 := Lib.hid hd9
    have HLZ : Hid (ls.length ≤ 1000000000) := Lib.hid (by have := H0.out.1; omega)
    clear h9 ho9 hk9 hle9 hd9
    go_wp2_with fail
    refine (same_any HO9.out H09.out HLE9.out hc0 HLZ.out).mono ?_
    rintro en w10 ⟨rfl, n10, rfl⟩
    rw [decide_eq_true rfl]
    have hk10 : Kp (fun k => k = w9.heap.size) w9 (w9.drewN n10) := (Kp.refl _ _).drewN _
    generalize w9.drewN n10 = w10 at *
    have HD10 := Lib.hid (HD9.out.by_ hk10 (Nat.ne_of_lt HD9.out.lt))
    have HB10 := Lib.hid (HB9.out.trans ((hk10.below (Nat.le_refl _) (fun k h => Nat.le_of_eq h.symm)).mono HB9.out.size))
    clear hk10
    go_wp2_with fail
    refine (dec_fail HD10.out).mono ?_
    rintro en w11 ⟨rfl, hb11⟩
    have HD11 := Lib.hid (HD10.out.below hb11)
    have HB11 := Lib.hid (HB10.out.trans (hb11.mono HB10.out.size))
    clear hb11
    go_wp2_with fail
    refine (dec_at HD11.out).mono ?_
    rintro en w12 ⟨rfl, rfl⟩
    go_wp2_with fail
    go_ret
    exact ⟨rfl, HB11.out⟩
theorem back_all {w : World} (A0 : Option Addr) (n0 c0 : Nat) (ls : List Int) (hc0 : n0 ≤ c0) (h0 : ReadsInt w .u32 A0 n0 ls) (hwf : ∀ z ∈ ls, (Lit.int .u32 z).wf = true) (A1 : Option Addr) (n1 c1 : Nat) (ps : List Int) (hc1 : n1 ≤ c1) (hp : ReadsInt w .i64 A1 n1 ps) (_ : ∀ z ∈ ps, (Lit.int .i64 z).wf = true) (A2 : Option Addr) (n2 c2 : Nat) (rs : List Int) (hc2 : n2 ≤ c2) (hr : ReadsInt w .i64 A2 n2 rs) (_ : ∀ z ∈ rs, (Lit.int .i64 z).wf = true) :
    Calls Try.prog 8 #[.slice A0 n0 c0, .slice A1 n1 c1, .slice A2 n2 c2] w fun en w' => en = .returned (.bool true) ∧ Below w.heap.size w w' := by
  have hr32 := fun k => range_u32 hwf k
  cases hg : (decide (400 < (n0 : Int)) || (decide (200 < n1) || decide (200 < n2)))
  · exact back_walk A0 n0 c0 ls hc0 h0 (fun k => by rw [List.getD_eq_getElem?_getD]; exact hr32 k) A1 A2 n1 c1 n2 c2 ps rs hp hr hg
  · exact back_great A0 n0 c0 A1 A2 n1 c1 n2 c2 w hg
end Go.Proofs.Ytolhfpboieimcaa
namespace Go.Proofs.Ytolhfpboieimcaa
open Go.RowKit Go.Proofs.YtolhfpboieimcaaW.PrintWords Go.Proofs.YtolhfpboieimcaaW.PrintMore
set_option linter.unusedVariables false
set_option linter.unusedSimpArgs false
def lexI : List Int → List Int → Bool
  | _, [] => false
  | [], _ :: _ => true
  | a :: x, b :: y => decide (a < b) || (a == b && lexI x y)
def key (xs : List Int) : List UInt8 := xs.map fun n => UInt8.ofNat n.toNat
def inB (xs : List Int) : Prop := ∀ x ∈ xs, 0 ≤ x ∧ x ≤ 255
theorem u8_lt {a b : Int} (ha : 0 ≤ a ∧ a ≤ 255) (hb : 0 ≤ b ∧ b ≤ 255) : decide (UInt8.ofNat a.toNat < UInt8.ofNat b.toNat) = decide (a < b) := by
  rw [decide_eq_decide, UInt8.lt_iff_toNat_lt, UInt8.toNat_ofNat', UInt8.toNat_ofNat']
  omega
theorem u8_eq {a b : Int} (ha : 0 ≤ a ∧ a ≤ 255) (hb : 0 ≤ b ∧ b ≤ 255) : (UInt8.ofNat a.toNat == UInt8.ofNat b.toNat) = (a == b) := by
  have h : (UInt8.ofNat a.toNat = UInt8.ofNat b.toNat) ↔ a = b := by
    rw [← UInt8.toNat_inj, UInt8.toNat_ofNat', UInt8.toNat_ofNat']
    omega
  by_cases e : a = b
  · rw [e]; simp
  · rw [beq_eq_false_iff_ne.2 e, beq_eq_false_iff_ne.2 (fun hh => e (h.1 hh))]
theorem bl_key : ∀ xs ys : List Int, inB xs → inB ys → Op.bytesLess (key xs) (key ys) = lexI xs ys
  | _, [], _, _ => by
    unfold key
    simp [Op.bytesLess, lexI]
  | [], _ :: _, _, _ => rfl
  | a :: x, b :: y, hx, hy => by
    have ha := hx a List.mem_cons_self
    have hb := hy b List.mem_cons_self
    have ih := bl_key x y (fun z hz => hx z (List.mem_cons_of_mem _ hz)) (fun z hz => hy z (List.mem_cons_of_mem _ hz))
    simp only [key, List.map_cons, Op.bytesLess, lexI]
    rw [u8_lt ha hb, u8_eq ha hb]
    congr 2
theorem key_inj {xs ys : List Int} (hx : inB xs) (hy : inB ys) (h : key xs = key ys) : xs = ys := by
  have back : ∀ l : List Int, inB l → (key l).map (fun u => (u.toNat : Int)) = l := by
    intro l hl
    unfold key
    rw [List.map_map]
    conv => rhs; rw [← List.map_id l]
    apply List.map_congr_left
    intro z hz
    have := hl z hz
    simp only [Function.comp, UInt8.toNat_ofNat', id]
    omega
  rw [← back xs hx, ← back ys hy, h]
theorem lexI_self : ∀ xs : List Int, lexI xs xs = false
  | [] => rfl
  | a :: x => by simp [lexI, lexI_self x]
theorem lex_lt {a b : Int} (h : a < b) (x y : List Int) : lexI (a :: x) (b :: y) = true ∧ lexI (b :: y) (a :: x) = false := by
  have h1 : ¬ b < a := by omega
  have h2 : ¬ b = a := by omega
  simp [lexI, h, h1, h2]
theorem lex_eq (a : Int) (x y : List Int) : lexI (a :: x) (a :: y) = lexI x y := by simp [lexI]
theorem lex_pre : ∀ (p x y : List Int), lexI (p ++ x) (p ++ y) = lexI x y
  | [], _, _ => rfl
  | a :: p, x, y => by rw [List.cons_append, List.cons_append, lex_eq]; exact lex_pre p x y
/-- Order, of two lists. -/
theorem order_lex (l0 l1 : List Int) (hz : l0.length ≤ 1000000000) (d : Nat) : ∀ (k i : Nat), l0.length - i = d → i ≤ l0.length → i ≤ l1.length → 2 * d + 2 ≤ k →
    ∃ r, PMod8Writes.pilcrowref01_Order.l0 k l0 l1 (i : Int) = some r ∧ (decide (r < 0) = lexI (l0.drop i) (l1.drop i)) ∧ (decide (0 < r) = lexI (l1.drop i) (l0.drop i)) := by
  induction d with
  | zero =>
    intro k i hd h0 h1 hk
    obtain ⟨k, rfl⟩ : ∃ m, k = m + 2 := ⟨k - 2, by omega⟩
    rw [PMod8Writes.pilcrowref01_Order.l0, if_neg (by omega), PMod8Writes.pilcrowref01_Order.j1, if_neg (by simp), List.drop_eq_nil_of_le (show l0.length ≤ i by omega)]
    by_cases h : (l0.length : Int) < l1.length
    · rw [if_pos h]
      obtain ⟨b, y, hby⟩ : ∃ b y, l1.drop i = b :: y := by
        cases hh : l1.drop i with
        | nil => have := congrArg List.length hh; rw [List.length_drop, List.length_nil] at this; omega
        | cons b y => exact ⟨b, y, rfl⟩
      rw [hby]
      exact ⟨-1, rfl, rfl, rfl⟩
    · rw [if_neg h, if_neg (by omega), List.drop_eq_nil_of_le (show l1.length ≤ i by omega)]
      exact ⟨0, rfl, rfl, rfl⟩
  | succ d ih =>
    intro k i hd h0 h1 hk
    obtain ⟨k, rfl⟩ : ∃ m, k = m + 2 := ⟨k - 2, by omega⟩
    have hd0 : l0.drop i = l0.getD i 0 :: l0.drop (i + 1) := by
      rw [List.drop_eq_getElem_cons (by omega), List.getD_eq_getElem?_getD, List.getElem?_eq_getElem (by omega)]; rfl
    rw [PMod8Writes.pilcrowref01_Order.l0, if_pos (by omega), hd0]
    by_cases h : (i : Int) < l1.length
    · have hd1 : l1.drop i = l1.getD i 0 :: l1.drop (i + 1) := by
        rw [List.drop_eq_getElem_cons (by omega), List.getD_eq_getElem?_getD, List.getElem?_eq_getElem (by omega)]; rfl
      rw [decide_eq_true h, PMod8Writes.pilcrowref01_Order.j1, if_pos rfl, if_pos (by omega), if_pos (by omega), if_pos h, rd_nat, rd_nat, hd1]
      by_cases hlt : l0.getD i 0 < l1.getD i 0
      · rw [if_pos hlt]
        obtain ⟨e1, e2⟩ := lex_lt hlt (l0.drop (i + 1)) (l1.drop (i + 1))
        exact ⟨-1, rfl, by rw [e1]; rfl, by rw [e2]; rfl⟩
      · rw [if_neg hlt]
        by_cases hgt : l0.getD i 0 > l1.getD i 0
        · rw [if_pos hgt]
          obtain ⟨e1, e2⟩ := lex_lt hgt (l1.drop (i + 1)) (l0.drop (i + 1))
          exact ⟨1, rfl, by rw [e2]; rfl, by rw [e1]; rfl⟩
        · have e : l0.getD i 0 = l1.getD i 0 := by omega
          rw [if_neg hgt, w64 (by omega) (by omega), e, lex_eq, lex_eq]
          exact ih k (i + 1) (by omega) (by omega) (by omega) (by omega)
    · rw [decide_eq_false h, PMod8Writes.pilcrowref01_Order.j1, if_neg (by simp), if_neg (by omega), if_pos (by omega), List.drop_eq_nil_of_le (show l1.length ≤ i by omega)]
      exact ⟨1, rfl, rfl, rfl⟩
theorem order_any {w : World} {A0 A1 : Option Addr} {n0 n1 c0 c1 : Nat} {l0 l1 : List Int} (h0 : ReadsInt w .u32 A0 n0 l0) (h1 : ReadsInt w .u32 A1 n1 l1) (hc0 : n0 ≤ c0) (hc1 : n1 ≤ c1) (hz : n0 ≤ 1000000000) :
    Calls Try.prog 14 #[.slice A0 n0 c0, .slice A1 n1 c1] w fun e w' => ∃ r, e = .returned (.int .i64 r) ∧ decide (r < 0) = lexI l0 l1 ∧ decide (0 < r) = lexI l1 l0 ∧ ∃ n, w' = w.drewN n := by
  obtain rfl : l0.length = n0 := h0.1
  obtain rfl : l1.length = n1 := h1.1
  obtain ⟨r, hr, e1, e2⟩ := order_lex l0 l1 hz l0.length (2 * l0.length + 2) 0 (by omega) (by omega) (by omega) (by omega)
  exact (PMod8Writes.pilcrowref01_Order.calls _ A0 c0 l0 A1 c1 l1 r w (Kd.C_of_reads (d := 0) h0) hc0 (Kd.C_of_reads (d := 0) h1) hc1 hr).mono fun e w' ⟨he, hd⟩ => ⟨r, he, e1, e2, hd.out⟩
theorem less_key {x y : ByteArray} {a b : List Int} (hx : bytesOf x = a) (hy : bytesOf y = b) (ha : inB a) (hb : inB b) : Op.bytesLess x.toList y.toList = lexI a b := by
  rw [toList_of_bytes hx, toList_of_bytes hy]
  exact bl_key a b ha hb
theorem lex_total : ∀ (a b : List Int), lexI b a = !(lexI a b || decide (a = b))
  | [], [] => rfl
  | [], _ :: _ => rfl
  | _ :: _, [] => rfl
  | x :: a, y :: b => by
    have ih := lex_total a b
    simp only [lexI, List.cons.injEq]
    rcases Int.lt_trichotomy x y with h | h | h
    · have h1 : ¬ y < x := by omega
      have h2 : ¬ y = x := by omega
      simp [h, h1, h2]
    · subst h
      simp only [Int.lt_irrefl, decide_false, Bool.false_or, beq_self_eq_true, Bool.true_and, true_and, ih]
    · have h1 : ¬ x < y := by omega
      have h2 : ¬ x = y := by omega
      simp [h, h1, h2]
theorem more_key {x y : ByteArray} {a b : List Int} (hx : bytesOf x = a) (hy : bytesOf y = b) (ha : inB a) (hb : inB b) : (!(Op.bytesLess x.toList y.toList || x.toList == y.toList)) = lexI b a := by
  have e : (x.toList == y.toList) = decide (a = b) := by
    rw [toList_of_bytes hx, toList_of_bytes hy]
    show (key a == key b) = _
    by_cases h : a = b
    · rw [h]; simp
    · rw [decide_eq_false h]
      exact beq_eq_false_iff_ne.2 (fun h9 => h (key_inj ha hb h9))
  rw [less_key hx hy ha hb, e, lex_total a b]
end Go.Proofs.Ytolhfpboieimcaa
namespace Go.Proofs.Ytolhfpboieimcaa
open Go.RowKit Go.Proofs.YtolhfpboieimcaaW.PrintWords Go.Proofs.YtolhfpboieimcaaW.PrintMore
set_option linter.unusedVariables false
set_option linter.unusedSimpArgs false
theorem dg0 {c d : Int} (h : c < d) : c / 32 < d / 32 ∨ (c / 32 = d / 32 ∧ 160 + c % 32 < 160 + d % 32) := by omega
theorem dg1 {c d : Int} (h : c / 32 < d / 32) : c / 1024 < d / 1024 ∨ (c / 1024 = d / 1024 ∧ 160 + c / 32 % 32 < 160 + d / 32 % 32) := by omega
theorem dg2 {c d : Int} (h : c / 1024 < d / 1024) : c / 32768 < d / 32768 ∨ (c / 32768 = d / 32768 ∧ 160 + c / 1024 % 32 < 160 + d / 1024 % 32) := by omega
theorem dg3 {c d : Int} (h : c / 32768 < d / 32768) : c / 1048576 < d / 1048576 ∨ (c / 1048576 = d / 1048576 ∧ 160 + c / 32768 % 32 < 160 + d / 32768 % 32) := by omega
theorem up1 {c d : Int} (h : c / 32 = d / 32) : c / 1024 = d / 1024 := by omega
theorem up2 {c d : Int} (h : c / 1024 = d / 1024) : c / 32768 = d / 32768 := by omega
theorem up3 {c d : Int} (h : c / 32768 = d / 32768) : c / 1048576 = d / 1048576 := by omega
theorem rby_less {c d : Int} (h0 : 0 ≤ c) (h1 : d ≤ 1114111) (h : c < d) (x y : List Int) : lexI (rby c ++ x) (rby d ++ y) = true ∧ lexI (rby d ++ y) (rby c ++ x) = false := by
  have head : ∀ {p q : Int} {r s : List Int}, rby c = p :: r → rby d = q :: s → p < q → lexI (rby c ++ x) (rby d ++ y) = true ∧ lexI (rby d ++ y) (rby c ++ x) = false := by
    intro p q r s e1 e2 hpq
    rw [e1, e2]
    exact lex_lt hpq _ _
  by_cases c1 : c < 160
  · have e1 := rby1 (c := c) (by omega)
    by_cases d1 : d < 160
    · exact head e1 (rby1 d1) h
    by_cases d2 : d < 1024
    · exact head e1 (rby2 (by omega) (by omega)) (by omega)
    by_cases d3 : d < 16384
    · exact head e1 (rby3 (by omega) (by omega)) (by omega)
    by_cases d4 : d < 262144
    · exact head e1 (rby4 (by omega) (by omega)) (by omega)
    exact head e1 (rby5 (by omega)) (by omega)
  by_cases c2 : c < 1024
  · have e1 := rby2 (c := c) (by omega) (by omega)
    by_cases d2 : d < 1024
    · have e2 := rby2 (c := d) (by omega) (by omega)
      rcases dg0 h with a0 | ⟨q1, b0⟩
      · exact head e1 e2 (Int.add_lt_add_left a0 _)
      · rw [e1, e2, q1]
        simp only [List.cons_append, lex_eq]
        exact lex_lt b0 _ _
    by_cases d3 : d < 16384
    · exact head e1 (rby3 (by omega) (by omega)) (by omega)
    by_cases d4 : d < 262144
    · exact head e1 (rby4 (by omega) (by omega)) (by omega)
    exact head e1 (rby5 (by omega)) (by omega)
  by_cases c3 : c < 16384
  · have e1 := rby3 (c := c) (by omega) (by omega)
    by_cases d3 : d < 16384
    · have e2 := rby3 (c := d) (by omega) (by omega)
      rcases dg0 h with a0 | ⟨q1, b0⟩
      rcases dg1 a0 with a1 | ⟨q2, b1⟩
      · exact head e1 e2 (Int.add_lt_add_left a1 _)
      · rw [e1, e2, q2]
        simp only [List.cons_append, lex_eq]
        exact lex_lt b1 _ _
      · have q2 := up1 q1
        rw [e1, e2, q2, q1]
        simp only [List.cons_append, lex_eq]
        exact lex_lt b0 _ _
    by_cases d4 : d < 262144
    · exact head e1 (rby4 (by omega) (by omega)) (by omega)
    exact head e1 (rby5 (by omega)) (by omega)
  by_cases c4 : c < 262144
  · have e1 := rby4 (c := c) (by omega) (by omega)
    by_cases d4 : d < 262144
    · have e2 := rby4 (c := d) (by omega) (by omega)
      rcases dg0 h with a0 | ⟨q1, b0⟩
      rcases dg1 a0 with a1 | ⟨q2, b1⟩
      rcases dg2 a1 with a2 | ⟨q3, b2⟩
      · exact head e1 e2 (Int.add_lt_add_left a2 _)
      · rw [e1, e2, q3]
        simp only [List.cons_append, lex_eq]
        exact lex_lt b2 _ _
      · have q3 := up2 q2
        rw [e1, e2, q3, q2]
        simp only [List.cons_append, lex_eq]
        exact lex_lt b1 _ _
      · have q2 := up1 q1
        have q3 := up2 q2
        rw [e1, e2, q3, q2, q1]
        simp only [List.cons_append, lex_eq]
        exact lex_lt b0 _ _
    exact head e1 (rby5 (by omega)) (by omega)
  · have e1 := rby5 (c := c) (by omega)
    have e2 := rby5 (c := d) (by omega)
    rcases dg0 h with a0 | ⟨q1, b0⟩
    rcases dg1 a0 with a1 | ⟨q2, b1⟩
    rcases dg2 a1 with a2 | ⟨q3, b2⟩
    rcases dg3 a2 with a3 | ⟨q4, b3⟩
    · exact head e1 e2 (Int.add_lt_add_left a3 _)
    · rw [e1, e2, q4]
      simp only [List.cons_append, lex_eq]
      exact lex_lt b3 _ _
    · have q4 := up3 q3
      rw [e1, e2, q4, q3]
      simp only [List.cons_append, lex_eq]
      exact lex_lt b2 _ _
    · have q3 := up2 q2
      have q4 := up3 q3
      rw [e1, e2, q4, q3, q2]
      simp only [List.cons_append, lex_eq]
      exact lex_lt b1 _ _
    · have q2 := up1 q1
      have q3 := up2 q2
      have q4 := up3 q3
      rw [e1, e2, q4, q3, q2, q1]
      simp only [List.cons_append, lex_eq]
      exact lex_lt b0 _ _
theorem txt_order : ∀ (a b : List Int), (∀ c ∈ a, 0 ≤ c ∧ isB c = true) → (∀ c ∈ b, 0 ≤ c ∧ isB c = true) → lexI (txt a) (txt b) = lexI a b
  | _, [], _, _ => by
    show lexI _ [] = lexI _ []
    simp [lexI]
  | [], d :: b, _, _ => by
    have hp := rby_pos d
    show lexI [] (rby d ++ txt b) = true
    cases hh : rby d ++ txt b with
    | nil => have := congrArg List.length hh; rw [List.length_append, List.length_nil] at this; omega
    | cons p q => rfl
  | c :: a, d :: b, ha, hb => by
    have hc := ha c (by simp)
    have hd := hb d (by simp)
    have rc := isB_range hc.2
    have rd' := isB_range hd.2
    show lexI (rby c ++ txt a) (rby d ++ txt b) = _
    rcases Int.lt_trichotomy c d with h | h | h
    · rw [(rby_less hc.1 rd' h (txt a) (txt b)).1, (lex_lt h a b).1]
    · subst h
      rw [lex_pre, lex_eq]
      exact txt_order a b (fun x hx => ha x (by simp [hx])) (fun x hx => hb x (by simp [hx]))
    · rw [(rby_less hd.1 rc h (txt b) (txt a)).2, (lex_lt h b a).2]
end Go.Proofs.Ytolhfpboieimcaa
namespace Go.Proofs.Ytolhfpboieimcaa
open Go.RowKit Go.Proofs.YtolhfpboieimcaaW.PrintWords Go.Proofs.YtolhfpboieimcaaW.PrintMore
set_option linter.unusedVariables false
set_option linter.unusedSimpArgs false
set_option maxHeartbeats 8000000 in
theorem order_all {w : World} (A0 : Option Addr) (n0 c0 : Nat) (ls : List Int) (hc0 : n0 ≤ c0) (h0 : ReadsInt w .u32 A0 n0 ls) (hwf0 : ∀ z ∈ ls, (Lit.int .u32 z).wf = true) (A1 : Option Addr) (n1 c1 : Nat) (ms : List Int) (hc1 : n1 ≤ c1) (h1 : ReadsInt w .u32 A1 n1 ms) (hwf1 : ∀ z ∈ ms, (Lit.int .u32 z).wf = true) :
    Calls Try.prog 3 #[.slice A0 n0 c0, .slice A1 n1 c1] w fun en w' => en = .returned (.bool true) ∧ Below w.heap.size w w' := by
  have hr0 : ∀ k, 0 ≤ ls.getD k 0 ∧ ls.getD k 0 ≤ 4294967295 := fun k => by rw [List.getD_eq_getElem?_getD]; exact range_u32 hwf0 k
  have hr1 : ∀ k, 0 ≤ ms.getD k 0 ∧ ms.getD k 0 ≤ 4294967295 := fun k => by rw [List.getD_eq_getElem?_getD]; exact range_u32 hwf1 k
  have H0 := Lib.hid h0
  have H1 := Lib.hid h1
  have H0L := Lib.hid (reads_lt h0)
  have H1L := Lib.hid (reads_lt h1)
  have W0 := Lib.hid hr0
  have W1 := Lib.hid hr1
  clear h0 h1 hwf0 hwf1 hr0 hr1
  cases hg : (decide (400 < (n0 : Int)) || (decide (200 < 0) || decide (200 < 0))) with
  | true =>
    go_enter Try.func3, Try.ntmps3
    go_wp2_with fail
    refine (awake_any _).mono ?_
    rintro en w2 ⟨rfl, hb2⟩
    have HB2 := Lib.hid hb2
    clear hb2
    go_wp2_with fail
    refine (great_any _ _ _ _ _ _ _ _).mono ?_
    rw [hg]
    rintro en w3 ⟨rfl, rfl⟩
    go_wp2_with fail
    refine (awake_any _).mono ?_
    rintro en w4 ⟨rfl, hb4⟩
    have HB4 := Lib.hid (HB2.out.trans (hb4.mono HB2.out.size))
    clear hb4
    go_wp2_with fail
    go_ret
    exact ⟨rfl, HB4.out⟩
  | false =>
  have hz0 : n0 ≤ 400 := by simp at hg; omega
  cases hg1 : (decide (400 < (n1 : Int)) || (decide (200 < 0) || decide (200 < 0))) with
  | true =>
    go_enter Try.func3, Try.ntmps3
    go_wp2_with fail
    refine (awake_any _).mono ?_
    rintro en w2 ⟨rfl, hb2⟩
    have HB2 := Lib.hid hb2
    clear hb2
    go_wp2_with fail
    refine (great_any _ _ _ _ _ _ _ _).mono ?_
    rw [hg]
    rintro en w3 ⟨rfl, rfl⟩
    go_wp2_with fail
    refine (great_any _ _ _ _ _ _ _ _).mono ?_
    rw [hg1]
    rintro en w3 ⟨rfl, rfl⟩
    go_wp2_with fail
    refine (awake_any _).mono ?_
    rintro en w4 ⟨rfl, hb4⟩
    have HB4 := Lib.hid (HB2.out.trans (hb4.mono HB2.out.size))
    clear hb4
    go_wp2_with fail
    go_ret
    exact ⟨rfl, HB4.out⟩
  | false =>
  have hz1 : n1 ≤ 400 := by simp at hg1; omega
  obtain ⟨m, hm, hsc, hends⟩ := first_ex ls
  obtain ⟨k, hk, hsk, hendk⟩ := first_ex ms
  have HM := Lib.hid hm
  have HSC := Lib.hid hsc
  have HEND := Lib.hid hends
  have KM := Lib.hid hk
  have KSC := Lib.hid hsk
  have KEND := Lib.hid hendk
  clear hm hsc hends hk hsk hendk
  go_enter Try.func3, Try.ntmps3
  go_wp2_with fail
  refine (awake_any _).mono ?_
  rintro en w2 ⟨rfl, hb2⟩
  have HB2 := Lib.hid hb2
  clear hb2
  go_wp2_with fail
  refine (great_any _ _ _ _ _ _ _ _).mono ?_
  rw [hg]
  rintro en w3 ⟨rfl, rfl⟩
  go_wp2_with fail
  refine (great_any _ _ _ _ _ _ _ _).mono ?_
  rw [hg1]
  rintro en w3 ⟨rfl, rfl⟩
  go_wp2_with fail
  have hf5 := first_any (H0.out.below HB2.out) hc0 (by omega) m HM.out HSC.out HEND.out
  rcases Nat.lt_or_ge m ls.length with hml | hml
  · rw [if_pos hml] at hf5
    refine hf5.mono ?_
    rintro en w5 ⟨rfl, n5, rfl⟩
    have HB5 := Lib.hid (HB2.out.trans (((Kp.refl (fun _ => False) w2).drewN n5).below (B := w.heap.size) HB2.out.size (fun _ h => h.elim)))
    generalize w2.drewN n5 = w5 at *
    clear hf5 hml
    go_wp2_with fail
    refine (awake_any _).mono ?_
    rintro en w4 ⟨rfl, hb4⟩
    have HB4 := Lib.hid (HB5.out.trans (hb4.mono HB5.out.size))
    clear hb4
    go_wp2_with fail
    go_ret
    exact ⟨rfl, HB4.out⟩
  rw [if_neg (by omega)] at hf5
  refine hf5.mono ?_
  rintro en w5 ⟨rfl, n5, rfl⟩
  have HB5 := Lib.hid (HB2.out.trans (((Kp.refl (fun _ => False) w2).drewN n5).below (B := w.heap.size) HB2.out.size (fun _ h => h.elim)))
  have HALL : Hid (∀ c ∈ ls, 0 ≤ c ∧ isB c = true) := Lib.hid (fun c hc => ⟨by obtain ⟨k, hk, rfl⟩ := List.mem_iff_getElem.1 hc; have := W0.out k; rw [List.getD_eq_getElem?_getD, List.getElem?_eq_getElem hk] at this; exact this.1, HSC.out c (by rw [List.take_of_length_le hml]; exact hc)⟩)
  generalize w2.drewN n5 = w5 at *
  clear hf5 hml
  go_wp2_with fail
  have hf6 := first_any (H1.out.below HB5.out) hc1 (by omega) k KM.out KSC.out KEND.out
  rcases Nat.lt_or_ge k ms.length with hkl | hkl
  · rw [if_pos hkl] at hf6
    refine hf6.mono ?_
    rintro en w6 ⟨rfl, n6, rfl⟩
    have HB6 := Lib.hid (HB5.out.trans (((Kp.refl (fun _ => False) w5).drewN n6).below (B := w.heap.size) HB5.out.size (fun _ h => h.elim)))
    generalize w5.drewN n6 = w6 at *
    clear hf6 hkl
    go_wp2_with fail
    refine (awake_any _).mono ?_
    rintro en w4 ⟨rfl, hb4⟩
    have HB4 := Lib.hid (HB6.out.trans (hb4.mono HB6.out.size))
    clear hb4
    go_wp2_with fail
    go_ret
    exact ⟨rfl, HB4.out⟩
  rw [if_neg (by omega)] at hf6
  refine hf6.mono ?_
  rintro en w6 ⟨rfl, n6, rfl⟩
  have HB6 := Lib.hid (HB5.out.trans (((Kp.refl (fun _ => False) w5).drewN n6).below (B := w.heap.size) HB5.out.size (fun _ h => h.elim)))
  have KALL : Hid (∀ c ∈ ms, 0 ≤ c ∧ isB c = true) := Lib.hid (fun c hc => ⟨by obtain ⟨k, hk, rfl⟩ := List.mem_iff_getElem.1 hc; have := W1.out k; rw [List.getD_eq_getElem?_getD, List.getElem?_eq_getElem hk] at this; exact this.1, KSC.out c (by rw [List.take_of_length_le hkl]; exact hc)⟩)
  generalize w5.drewN n6 = w6 at *
  clear hf6 hkl
  go_wp2_with fail
  refine (newe_any _).mono ?_
  rintro en w7 ⟨rfl, he7, hb7⟩
  have HS6 := Lib.hid HB6.out.size
  generalize w6.heap.size = g at *
  have HB7 := Lib.hid (HB6.out.trans (hb7.mono HS6.out))
  have HE7 := Lib.hid he7
  clear he7 hb7
  go_wp2_with fail
  refine (write_any A0 n0 c0 ls none none 0 0 0 0 [] [] es0 trivial (by omega) hc0 (by omega) (by omega) (H0.out.below HB7.out) W0.out (reads_nil _ _) (reads_nil _ _) (fun ad h h0 => by have := H0L.out ad h h0; have := HS6.out; omega) none_ne none_ne ⟨#[]⟩ rfl HE7.out).mono ?_
  rintro en w8 h8
  obtain ⟨x, y, rfl, hx, hk8, _⟩ := write_whole h8 HALL.out
  rw [erun_txt _ HALL.out] at hx
  have HX := Lib.hid hx
  have HB8 := Lib.hid (HB7.out.trans (hk8.below (B := w.heap.size) HB7.out.size (fun k hk => by rw [hk]; exact HS6.out)))
  clear h8 hx hk8
  go_wp2_with fail
  refine (newe_any _).mono ?_
  rintro en w9 ⟨rfl, he9, hb9⟩
  have HS8 := Lib.hid HB8.out.size
  generalize w8.heap.size = g2 at *
  have HB9 := Lib.hid (HB8.out.trans (hb9.mono HS8.out))
  have HE9 := Lib.hid he9
  clear he9 hb9
  go_wp2_with fail
  refine (write_any A1 n1 c1 ms none none 0 0 0 0 [] [] es0 trivial (by omega) hc1 (by omega) (by omega) (H1.out.below HB9.out) W1.out (reads_nil _ _) (reads_nil _ _) (fun ad h h0 => by have := H1L.out ad h h0; have := HS8.out; omega) none_ne none_ne ⟨#[]⟩ rfl HE9.out).mono ?_
  rintro en w10 h10
  obtain ⟨x2, y2, rfl, hx2, hk10, _⟩ := write_whole h10 KALL.out
  rw [erun_txt _ KALL.out] at hx2
  have HX2 := Lib.hid hx2
  have HB10 := Lib.hid (HB9.out.trans (hk10.below (B := w.heap.size) HB9.out.size (fun k hk => by rw [hk]; exact HS8.out)))
  clear h10 hx2 hk10
  go_wp2_with fail
  refine (order_any (H0.out.below HB10.out) (H1.out.below HB10.out) hc0 hc1 (by omega)).mono ?_
  rintro en w11 ⟨r, rfl, ho1, ho2, n11, rfl⟩
  have HB11 := Lib.hid (HB10.out.trans (((Kp.refl (fun _ => False) w10).drewN n11).below (B := w.heap.size) HB10.out.size (fun _ h => h.elim)))
  generalize w10.drewN n11 = w11 at *
  have hl1 := less_key HX.out HX2.out (txt_range _ HALL.out) (txt_range _ KALL.out)
  have hl2 := more_key HX.out HX2.out (txt_range _ HALL.out) (txt_range _ KALL.out)
  rw [txt_order _ _ HALL.out KALL.out] at hl1
  rw [txt_order _ _ KALL.out HALL.out] at hl2
  have he1 : (Op.bytesLess x.toList x2.toList == decide (r < 0)) = true := by rw [hl1, ho1]; simp
  have he2 : ((!Op.bytesLess x.toList x2.toList && !x.toList == x2.toList) == decide (0 < r)) = true := by rw [← Bool.not_or, hl2, ho2]; simp
  clear hl1 hl2 ho1 ho2
  go_wp2_with fail
  go_ret
  exact ⟨rfl, HB11.out⟩
end Go.Proofs.Ytolhfpboieimcaa
