/- Texts and lists compared: the law Order, plain and walked. -/
import Derived.Test.YthodifmfamflpaaL4
import Derived.Laws.Cover1
namespace Go.Proofs.Ythodifmfamflpaa
open Go.RowKit Go.Proofs.YthodifmfamflpaaW.PrintWords Go.Proofs.YthodifmfamflpaaW.PrintMore
set_option linter.unusedVariables false
set_option linter.unusedSimpArgs false
set_option maxRecDepth 20000
def lexI : List Int → List Int → Bool
  | _, [] => false
  | [], _ :: _ => true
  | a :: x, b :: y => decide (a < b) || (a == b && lexI x y)
def key (xs : List Int) : List UInt8 := xs.map fun n => UInt8.ofNat n.toNat
def inB (xs : List Int) : Prop := ∀ x ∈ xs, 0 ≤ x ∧ x ≤ 255
theorem u8_lt {a b : Int} (ha : 0 ≤ a ∧ a ≤ 255) (hb : 0 ≤ b ∧ b ≤ 255) : decide (UInt8.ofNat a.toNat < UInt8.ofNat b.toNat) = decide (a < b) := by
  rw [decide_eq_decide, UInt8.lt_iff_toNat_lt, UInt8.toNat_ofNat', UInt8.toNat_ofNat']
  omega
theorem u8_eq {a b : Int} (ha : 0 ≤ a ∧ a ≤ 255) (hb : 0 ≤ b ∧ b ≤ 255) : (UInt8.ofNat a.toNat == UInt8.ofNat b.toNat) = (a == b) := by
  have h : (UInt8.ofNat a.toNat = UInt8.ofNat b.toNat) ↔ a = b := by
    rw [← UInt8.toNat_inj, UInt8.toNat_ofNat', UInt8.toNat_ofNat']
    omega
  by_cases e : a = b
  · rw [e]; simp
  · rw [beq_eq_false_iff_ne.2 e, beq_eq_false_iff_ne.2 (fun hh => e (h.1 hh))]
theorem bl_key : ∀ xs ys : List Int, inB xs → inB ys → Op.bytesLess (key xs) (key ys) = lexI xs ys
  | _, [], _, _ => by
    unfold key
    simp [Op.bytesLess, lexI]
  | [], _ :: _, _, _ => rfl
  | a :: x, b :: y, hx, hy => by
    have ha := hx a List.mem_cons_self
    have hb := hy b List.mem_cons_self
    have ih := bl_key x y (fun z hz => hx z (List.mem_cons_of_mem _ hz)) (fun z hz => hy z (List.mem_cons_of_mem _ hz))
    simp only [key, List.map_cons, Op.bytesLess, lexI]
    rw [u8_lt ha hb, u8_eq ha hb]
    congr 2
theorem key_inj {xs ys : List Int} (hx : inB xs) (hy : inB ys) (h : key xs = key ys) : xs = ys := by
  have back : ∀ l : List Int, inB l → (key l).map (fun u => (u.toNat : Int)) = l := by
    intro l hl
    unfold key
    rw [List.map_map]
    conv => rhs; rw [← List.map_id l]
    apply List.map_congr_left
    intro z hz
    have := hl z hz
    simp only [Function.comp, UInt8.toNat_ofNat', id]
    omega
  rw [← back xs hx, ← back ys hy, h]
theorem lexI_self : ∀ xs : List Int, lexI xs xs = false
  | [] => rfl
  | a :: x => by simp [lexI, lexI_self x]
theorem lex_lt {a b : Int} (h : a < b) (x y : List Int) : lexI (a :: x) (b :: y) = true ∧ lexI (b :: y) (a :: x) = false := by
  have h1 : ¬ b < a := by omega
  have h2 : ¬ b = a := by omega
  simp [lexI, h, h1, h2]
theorem lex_eq (a : Int) (x y : List Int) : lexI (a :: x) (a :: y) = lexI x y := by simp [lexI]
theorem lex_pre : ∀ (p x y : List Int), lexI (p ++ x) (p ++ y) = lexI x y
  | [], _, _ => rfl
  | a :: p, x, y => by rw [List.cons_append, List.cons_append, lex_eq]; exact lex_pre p x y
/-- Order, of two lists. -/
theorem order_lex (l0 l1 : List Int) (hz : l0.length ≤ 1000000000) (d : Nat) : ∀ (k i : Nat), l0.length - i = d → i ≤ l0.length → i ≤ l1.length → 2 * d + 2 ≤ k →
    ∃ r, PBocuExtends.pilcrowref01_Order.l0 k l0 l1 (i : Int) = some r ∧ (decide (r < 0) = lexI (l0.drop i) (l1.drop i)) ∧ (decide (0 < r) = lexI (l1.drop i) (l0.drop i)) := by
  induction d with
  | zero =>
    intro k i hd h0 h1 hk
    obtain ⟨k, rfl⟩ : ∃ m, k = m + 2 := ⟨k - 2, by omega⟩
    rw [PBocuExtends.pilcrowref01_Order.l0, if_neg (by omega), PBocuExtends.pilcrowref01_Order.j1, if_neg (by simp), List.drop_eq_nil_of_le (show l0.length ≤ i by omega)]
    by_cases h : (l0.length : Int) < l1.length
    · rw [if_pos h]
      obtain ⟨b, y, hby⟩ : ∃ b y, l1.drop i = b :: y := by
        cases hh : l1.drop i with
        | nil => have := congrArg List.length hh; rw [List.length_drop, List.length_nil] at this; omega
        | cons b y => exact ⟨b, y, rfl⟩
      rw [hby]
      exact ⟨-1, rfl, rfl, rfl⟩
    · rw [if_neg h, if_neg (by omega), List.drop_eq_nil_of_le (show l1.length ≤ i by omega)]
      exact ⟨0, rfl, rfl, rfl⟩
  | succ d ih =>
    intro k i hd h0 h1 hk
    obtain ⟨k, rfl⟩ : ∃ m, k = m + 2 := ⟨k - 2, by omega⟩
    have hd0 : l0.drop i = l0.getD i 0 :: l0.drop (i + 1) := by
      rw [List.drop_eq_getElem_cons (by omega), List.getD_eq_getElem?_getD, List.getElem?_eq_getElem (by omega)]; rfl
    rw [PBocuExtends.pilcrowref01_Order.l0, if_pos (by omega), hd0]
    by_cases h : (i : Int) < l1.length
    · have hd1 : l1.drop i = l1.getD i 0 :: l1.drop (i + 1) := by
        rw [List.drop_eq_getElem_cons (by omega), List.getD_eq_getElem?_getD, List.getElem?_eq_getElem (by omega)]; rfl
      rw [decide_eq_true h, PBocuExtends.pilcrowref01_Order.j1, if_pos rfl, if_pos (by omega), if_pos (by omega), if_pos h, rd_nat, rd_nat, hd1]
      by_cases hlt : l0.getD i 0 < l1.getD i 0
      · rw [if_pos hlt]
        obtain ⟨e1, e2⟩ := lex_lt hlt (l0.drop (i + 1)) (l1.drop (i + 1))
        exact ⟨-1, rfl, by rw [e1]; rfl, by rw [e2]; rfl⟩
      · rw [if_neg hlt]
        by_cases hgt : l0.getD i 0 > l1.getD i 0
        · rw [if_pos hgt]
          obtain ⟨e1, e2⟩ := lex_lt hgt (l1.drop (i + 1)) (l0.drop (i + 1))
          exact ⟨1, rfl, by rw [e2]; rfl, by rw [e1]; rfl⟩
        · have e : l0.getD i 0 = l1.getD i 0 := by omega
          rw [if_neg hgt, w64 (by omega) (by omega), e, lex_eq, lex_eq]
          exact ih k (i + 1) (by omega) (by omega) (by omega) (by omega)
    · rw [decide_eq_false h, PBocuExtends.pilcrowref01_Order.j1, if_neg (by simp), if_neg (by omega), if_pos (by omega), List.drop_eq_nil_of_le (show l1.length ≤ i by omega)]
      exact ⟨1, rfl, rfl, rfl⟩
theorem order_any {w : World} {A0 A1 : Option Addr} {n0 n1 c0 c1 : Nat} {l0 l1 : List Int} (h0 : ReadsInt w .u32 A0 n0 l0) (h1 : ReadsInt w .u32 A1 n1 l1) (hc0 : n0 ≤ c0) (hc1 : n1 ≤ c1) (hz : n0 ≤ 1000000000) :
    Calls Try.prog 16 #[.slice A0 n0 c0, .slice A1 n1 c1] w fun e w' => ∃ r, e = .returned (.int .i64 r) ∧ decide (r < 0) = lexI l0 l1 ∧ decide (0 < r) = lexI l1 l0 ∧ ∃ n, w' = w.drewN n := by
  obtain rfl : l0.length = n0 := h0.1
  obtain rfl : l1.length = n1 := h1.1
  obtain ⟨r, hr, e1, e2⟩ := order_lex l0 l1 hz l0.length (2 * l0.length + 2) 0 (by omega) (by omega) (by omega) (by omega)
  exact (PBocuExtends.pilcrowref01_Order.calls _ A0 c0 l0 A1 c1 l1 r w (Kd.C_of_reads (d := 0) h0) hc0 (Kd.C_of_reads (d := 0) h1) hc1 hr).mono fun e w' ⟨he, hd⟩ => ⟨r, he, e1, e2, hd.out⟩
theorem less_key {x y : ByteArray} {a b : List Int} (hx : bytesOf x = a) (hy : bytesOf y = b) (ha : inB a) (hb : inB b) : Op.bytesLess x.toList y.toList = lexI a b := by
  rw [toList_of_bytes hx, toList_of_bytes hy]
  exact bl_key a b ha hb
theorem lex_total : ∀ (a b : List Int), lexI b a = !(lexI a b || decide (a = b))
  | [], [] => rfl
  | [], _ :: _ => rfl
  | _ :: _, [] => rfl
  | x :: a, y :: b => by
    have ih := lex_total a b
    simp only [lexI, List.cons.injEq]
    rcases Int.lt_trichotomy x y with h | h | h
    · have h1 : ¬ y < x := by omega
      have h2 : ¬ y = x := by omega
      simp [h, h1, h2]
    · subst h
      simp only [Int.lt_irrefl, decide_false, Bool.false_or, beq_self_eq_true, Bool.true_and, true_and, ih]
    · have h1 : ¬ x < y := by omega
      have h2 : ¬ x = y := by omega
      simp [h, h1, h2]
theorem more_key {x y : ByteArray} {a b : List Int} (hx : bytesOf x = a) (hy : bytesOf y = b) (ha : inB a) (hb : inB b) : (!(Op.bytesLess x.toList y.toList || x.toList == y.toList)) = lexI b a := by
  have e : (x.toList == y.toList) = decide (a = b) := by
    rw [toList_of_bytes hx, toList_of_bytes hy]
    show (key a == key b) = _
    by_cases h : a = b
    · rw [h]; simp
    · rw [decide_eq_false h]
      exact beq_eq_false_iff_ne.2 (fun h9 => h (key_inj ha hb h9))
  rw [less_key hx hy ha hb, e, lex_total a b]
end Go.Proofs.Ythodifmfamflpaa
namespace Go.Proofs.Ythodifmfamflpaa
open Go.RowKit Go.Proofs.YthodifmfamflpaaW.PrintWords Go.Proofs.YthodifmfamflpaaW.PrintMore
set_option linter.unusedVariables false
set_option linter.unusedSimpArgs false
set_option maxRecDepth 20000
theorem txt_range (l : List Int) (h : ∀ c ∈ l, 0 ≤ c ∧ isB c = true) : ∀ x ∈ txt l, 0 ≤ x ∧ x ≤ 255 := (erun_bytes l eok0 h).1
theorem lexI_D : ∀ (xs ys : List Int), lexI xs ys = D.lexI xs ys
  | [], [] => rfl
  | _ :: _, [] => rfl
  | [], _ :: _ => rfl
  | a :: x, b :: y => by
    rw [lexI, D.lexI, lexI_D x y]
/-- One text is less, and none begins the other: so it is, whatever stands behind. -/
theorem lex_app : ∀ (p q x y : List Int), lexI p q = true → p.take (min p.length q.length) ≠ q.take (min p.length q.length) → lexI (p ++ x) (q ++ y) = true ∧ lexI (q ++ y) (p ++ x) = false
  | [], q, x, y, _, h => absurd (by simp) h
  | p, [], x, y, _, h => absurd (by simp) h
  | a :: p, b :: q, x, y, hl, h => by
    simp only [lexI, Bool.or_eq_true, decide_eq_true_eq, Bool.and_eq_true, beq_iff_eq] at hl
    rw [List.cons_append, List.cons_append]
    rcases hl with hl | ⟨rfl, hl⟩
    · exact lex_lt hl _ _
    · rw [lex_eq, lex_eq]
      refine lex_app p q x y hl fun h9 => h ?_
      rw [List.length_cons, List.length_cons, show min (p.length + 1) (q.length + 1) = min p.length q.length + 1 by omega, List.take_succ_cons, List.take_succ_cons, h9]
theorem eby_less {s : ES} (hs : eok s) {c d : Int} (h0 : 0 ≤ c) (hc : isB c = true) (hd : isB d = true) (h : c < d) (x y : List Int) : lexI ((eby s c).1 ++ x) ((eby s d).1 ++ y) = true ∧ lexI ((eby s d).1 ++ y) ((eby s c).1 ++ x) = false := by
  have rc := isB_range hc
  have rd' := isB_range hd
  have hpv := hs
  unfold eok at hpv
  unfold eby
  by_cases h1 : c ≤ 32
  · rw [if_pos h1]
    by_cases h2 : d ≤ 32
    · rw [if_pos h2]
      exact lex_lt h _ _
    · rw [if_neg h2]
      have hl := D.lead_range (d := d - s.pv) (by omega) (by omega)
      exact lex_lt (show c < D.leadF (d - s.pv) by omega) _ _
  · rw [if_neg h1, if_neg (by omega)]
    refine lex_app _ _ x y ?_ fun h9 => ?_
    · rw [lexI_D, D.pack_lex (by omega) (by omega) (by omega) (by omega), decide_eq_true (by omega)]
    · have := D.pack_take (by omega) (by omega) (by omega) (by omega) _ rfl h9
      omega
theorem erun_order : ∀ (a b : List Int) (s : ES), eok s → (∀ c ∈ a, 0 ≤ c ∧ isB c = true) → (∀ c ∈ b, 0 ≤ c ∧ isB c = true) → lexI (erun s a).1 (erun s b).1 = lexI a b
  | _, [], s, _, _, _ => by
    show lexI _ [] = lexI _ []
    simp [lexI]
  | [], d :: b, s, hs, _, hb => by
    have hd := hb d (by simp)
    have hp := eby_pos s d hs hd.1 hd.2
    show lexI [] ((eby s d).1 ++ _) = true
    cases hh : (eby s d).1 ++ (erun (eby s d).2 b).1 with
    | nil => have := congrArg List.length hh; rw [List.length_append, List.length_nil] at this; omega
    | cons p q => rfl
  | c :: a, d :: b, s, hs, ha, hb => by
    have hc := ha c (by simp)
    have hd := hb d (by simp)
    simp only [erun]
    rcases Int.lt_trichotomy c d with h | h | h
    · rw [(eby_less hs hc.1 hc.2 hd.2 h _ _).1, (lex_lt h a b).1]
    · subst h
      rw [lex_pre, lex_eq]
      exact erun_order a b _ (eby_ok hs hc.1 hc.2) (fun x hx => ha x (by simp [hx])) (fun x hx => hb x (by simp [hx]))
    · rw [(eby_less hs hd.1 hd.2 hc.2 h _ _).2, (lex_lt h b a).2]
theorem txt_order (a b : List Int) (ha : ∀ c ∈ a, 0 ≤ c ∧ isB c = true) (hb : ∀ c ∈ b, 0 ≤ c ∧ isB c = true) : lexI (txt a) (txt b) = lexI a b := erun_order a b es0 eok0 ha hb
end Go.Proofs.Ythodifmfamflpaa
namespace Go.Proofs.Ythodifmfamflpaa
open Go.RowKit Go.Proofs.YthodifmfamflpaaW.PrintWords Go.Proofs.YthodifmfamflpaaW.PrintMore
set_option linter.unusedVariables false
set_option linter.unusedSimpArgs false
set_option maxRecDepth 20000
set_option maxHeartbeats 8000000 in
theorem order_all {w : World} (A0 : Option Addr) (n0 c0 : Nat) (ls : List Int) (hc0 : n0 ≤ c0) (h0 : ReadsInt w .u32 A0 n0 ls) (hwf0 : ∀ z ∈ ls, (Lit.int .u32 z).wf = true) (A1 : Option Addr) (n1 c1 : Nat) (ms : List Int) (hc1 : n1 ≤ c1) (h1 : ReadsInt w .u32 A1 n1 ms) (hwf1 : ∀ z ∈ ms, (Lit.int .u32 z).wf = true) :
    Calls Try.prog 3 #[.slice A0 n0 c0, .slice A1 n1 c1] w fun en w' => en = .returned (.bool true) ∧ Below w.heap.size w w' := by
  have hr0 : ∀ k, 0 ≤ ls.getD k 0 ∧ ls.getD k 0 ≤ 4294967295 := fun k => by rw [List.getD_eq_getElem?_getD]; exact range_u32 hwf0 k
  have hr1 : ∀ k, 0 ≤ ms.getD k 0 ∧ ms.getD k 0 ≤ 4294967295 := fun k => by rw [List.getD_eq_getElem?_getD]; exact range_u32 hwf1 k
  have H0 := Lib.hid h0
  have H1 := Lib.hid h1
  have H0L := Lib.hid (reads_lt h0)
  have H1L := Lib.hid (reads_lt h1)
  have W0 := Lib.hid hr0
  have W1 := Lib.hid hr1
  clear h0 h1 hwf0 hwf1 hr0 hr1
  cases hg : (decide (400 < (n0 : Int)) || (decide (200 < 0) || decide (200 < 0))) with
  | true =>
    go_enter Try.func3, Try.ntmps3
    go_wp2_with fail
    refine (awake_any _).mono ?_
    rintro en w2 ⟨rfl, hb2⟩
    have HB2 := Lib.hid hb2
    clear hb2
    go_wp2_with fail
    refine (great_any _ _ _ _ _ _ _ _).mono ?_
    rw [hg]
    rintro en w3 ⟨rfl, rfl⟩
    go_wp2_with fail
    refine (awake_any _).mono ?_
    rintro en w4 ⟨rfl, hb4⟩
    have HB4 := Lib.hid (HB2.out.trans (hb4.mono HB2.out.size))
    clear hb4
    go_wp2_with fail
    go_ret
    exact ⟨rfl, HB4.out⟩
  | false =>
  have hz0 : n0 ≤ 400 := by simp at hg; omega
  cases hg1 : (decide (400 < (n1 : Int)) || (decide (200 < 0) || decide (200 < 0))) with
  | true =>
    go_enter Try.func3, Try.ntmps3
    go_wp2_with fail
    refine (awake_any _).mono ?_
    rintro en w2 ⟨rfl, hb2⟩
    have HB2 := Lib.hid hb2
    clear hb2
    go_wp2_with fail
    refine (great_any _ _ _ _ _ _ _ _).mono ?_
    rw [hg]
    rintro en w3 ⟨rfl, rfl⟩
    go_wp2_with fail
    refine (great_any _ _ _ _ _ _ _ _).mono ?_
    rw [hg1]
    rintro en w3 ⟨rfl, rfl⟩
    go_wp2_with fail
    refine (awake_any _).mono ?_
    rintro en w4 ⟨rfl, hb4⟩
    have HB4 := Lib.hid (HB2.out.trans (hb4.mono HB2.out.size))
    clear hb4
    go_wp2_with fail
    go_ret
    exact ⟨rfl, HB4.out⟩
  | false =>
  have hz1 : n1 ≤ 400 := by simp at hg1; omega
  obtain ⟨m, hm, hsc, hends⟩ := first_ex ls
  obtain ⟨k, hk, hsk, hendk⟩ := first_ex ms
  have HM := Lib.hid hm
  have HSC := Lib.hid hsc
  have HEND := Lib.hid hends
  have KM := Lib.hid hk
  have KSC := Lib.hid hsk
  have KEND := Lib.hid hendk
  clear hm hsc hends hk hsk hendk
  go_enter Try.func3, Try.ntmps3
  go_wp2_with fail
  refine (awake_any _).mono ?_
  rintro en w2 ⟨rfl, hb2⟩
  have HB2 := Lib.hid hb2
  clear hb2
  go_wp2_with fail
  refine (great_any _ _ _ _ _ _ _ _).mono ?_
  rw [hg]
  rintro en w3 ⟨rfl, rfl⟩
  go_wp2_with fail
  refine (great_any _ _ _ _ _ _ _ _).mono ?_
  rw [hg1]
  rintro en w3 ⟨rfl, rfl⟩
  go_wp2_with fail
  have hf5 := first_any (H0.out.below HB2.out) hc0 (by omega) m HM.out HSC.out HEND.out
  rcases Nat.lt_or_ge m ls.length with hml | hml
  · rw [if_pos hml] at hf5
    refine hf5.mono ?_
    rintro en w5 ⟨rfl, n5, rfl⟩
    have HB5 := Lib.hid (HB2.out.trans (((Kp.refl (fun _ => False) w2).drewN n5).below (B := w.heap.size) HB2.out.size (fun _ h => h.elim)))
    generalize w2.drewN n5 = w5 at *
    clear hf5 hml
    go_wp2_with fail
    refine (awake_any _).mono ?_
    rintro en w4 ⟨rfl, hb4⟩
    have HB4 := Lib.hid (HB5.out.trans (hb4.mono HB5.out.size))
    clear hb4
    go_wp2_with fail
    go_ret
    exact ⟨rfl, HB4.out⟩
  rw [if_neg (by omega)] at hf5
  refine hf5.mono ?_
  rintro en w5 ⟨rfl, n5, rfl⟩
  have HB5 := Lib.hid (HB2.out.trans (((Kp.refl (fun _ => False) w2).drewN n5).below (B := w.heap.size) HB2.out.size (fun _ h => h.elim)))
  have HALL : Hid (∀ c ∈ ls, 0 ≤ c ∧ isB c = true) := Lib.hid (fun c hc => ⟨by obtain ⟨k, hk, rfl⟩ := List.mem_iff_getElem.1 hc; have := W0.out k; rw [List.getD_eq_getElem?_getD, List.getElem?_eq_getElem hk] at this; exact this.1, HSC.out c (by rw [List.take_of_length_le hml]; exact hc)⟩)
  generalize w2.drewN n5 = w5 at *
  clear hf5 hml
  go_wp2_with fail
  have hf6 := first_any (H1.out.below HB5.out) hc1 (by omega) k KM.out KSC.out KEND.out
  rcases Nat.lt_or_ge k ms.length with hkl | hkl
  · rw [if_pos hkl] at hf6
    refine hf6.mono ?_
    rintro en w6 ⟨rfl, n6, rfl⟩
    have HB6 := Lib.hid (HB5.out.trans (((Kp.refl (fun _ => False) w5).drewN n6).below (B := w.heap.size) HB5.out.size (fun _ h => h.elim)))
    generalize w5.drewN n6 = w6 at *
    clear hf6 hkl
    go_wp2_with fail
    refine (awake_any _).mono ?_
    rintro en w4 ⟨rfl, hb4⟩
    have HB4 := Lib.hid (HB6.out.trans (hb4.mono HB6.out.size))
    clear hb4
    go_wp2_with fail
    go_ret
    exact ⟨rfl, HB4.out⟩
  rw [if_neg (by omega)] at hf6
  refine hf6.mono ?_
  rintro en w6 ⟨rfl, n6, rfl⟩
  have HB6 := Lib.hid (HB5.out.trans (((Kp.refl (fun _ => False) w5).drewN n6).below (B := w.heap.size) HB5.out.size (fun _ h => h.elim)))
  have KALL : Hid (∀ c ∈ ms, 0 ≤ c ∧ isB c = true) := Lib.hid (fun c hc => ⟨by obtain ⟨k, hk, rfl⟩ := List.mem_iff_getElem.1 hc; have := W1.out k; rw [List.getD_eq_getElem?_getD, List.getElem?_eq_getElem hk] at this; exact this.1, KSC.out c (by rw [List.take_of_length_le hkl]; exact hc)⟩)
  generalize w5.drewN n6 = w6 at *
  clear hf6 hkl
  go_wp2_with fail
  refine (newe_any _).mono ?_
  rintro en w7 ⟨rfl, he7, hb7⟩
  have HS6 := Lib.hid HB6.out.size
  generalize w6.heap.size = g at *
  have HB7 := Lib.hid (HB6.out.trans (hb7.mono HS6.out))
  have HE7 := Lib.hid he7
  clear he7 hb7
  go_wp2_with fail
  refine (write_any A0 n0 c0 ls none none 0 0 0 0 [] [] es0 eok0 (by omega) hc0 (by omega) (by omega) (H0.out.below HB7.out) W0.out (reads_nil _ _) (reads_nil _ _) (fun ad h h0 => by have := H0L.out ad h h0; have := HS6.out; omega) none_ne none_ne ⟨#[]⟩ rfl HE7.out).mono ?_
  rintro en w8 h8
  obtain ⟨x, y, rfl, hx, hk8, _⟩ := write_whole h8 HALL.out
  rw [erun_txt _ HALL.out] at hx
  have HX := Lib.hid hx
  have HB8 := Lib.hid (HB7.out.trans (hk8.below (B := w.heap.size) HB7.out.size (fun k hk => by rw [hk]; exact HS6.out)))
  clear h8 hx hk8
  go_wp2_with fail
  refine (newe_any _).mono ?_
  rintro en w9 ⟨rfl, he9, hb9⟩
  have HS8 := Lib.hid HB8.out.size
  generalize w8.heap.size = g2 at *
  have HB9 := Lib.hid (HB8.out.trans (hb9.mono HS8.out))
  have HE9 := Lib.hid he9
  clear he9 hb9
  go_wp2_with fail
  refine (write_any A1 n1 c1 ms none none 0 0 0 0 [] [] es0 eok0 (by omega) hc1 (by omega) (by omega) (H1.out.below HB9.out) W1.out (reads_nil _ _) (reads_nil _ _) (fun ad h h0 => by have := H1L.out ad h h0; have := HS8.out; omega) none_ne none_ne ⟨#[]⟩ rfl HE9.out).mono ?_
  rintro en w10 h10
  obtain ⟨x2, y2, rfl, hx2, hk10, _⟩ := write_whole h10 KALL.out
  rw [erun_txt _ KALL.out] at hx2
  have HX2 := Lib.hid hx2
  have HB10 := Lib.hid (HB9.out.trans (hk10.below (B := w.heap.size) HB9.out.size (fun k hk => by rw [hk]; exact HS8.out)))
  clear h10 hx2 hk10
  go_wp2_with fail
  refine (order_any (H0.out.below HB10.out) (H1.out.below HB10.out) hc0 hc1 (by omega)).mono ?_
  rintro en w11 ⟨r, rfl, ho1, ho2, n11, rfl⟩
  have HB11 := Lib.hid (HB10.out.trans (((Kp.refl (fun _ => False) w10).drewN n11).below (B := w.heap.size) HB10.out.size (fun _ h => h.elim)))
  generalize w10.drewN n11 = w11 at *
  have hl1 := less_key HX.out HX2.out (txt_range _ HALL.out) (txt_range _ KALL.out)
  have hl2 := more_key HX.out HX2.out (txt_range _ HALL.out) (txt_range _ KALL.out)
  rw [txt_order _ _ HALL.out KALL.out] at hl1
  rw [txt_order _ _ KALL.out HALL.out] at hl2
  have he1 : (Op.bytesLess x.toList x2.toList == decide (r < 0)) = true := by rw [hl1, ho1]; simp
  have he2 : ((!Op.bytesLess x.toList x2.toList && !x.toList == x2.toList) == decide (0 < r)) = true := by rw [← Bool.not_or, hl2, ho2]; simp
  clear hl1 hl2 ho1 ho2
  go_wp2_with fail
  go_ret
  exact ⟨rfl, HB11.out⟩
end Go.Proofs.Ythodifmfamflpaa
