/- The law's write: what an encoder tells of scalars that come in parts. -/
import Derived.Test.YtcfpbihkodjlkaaEw
import Derived.Test.YtcfpbihkodjlkaaRd
import Derived.Deep.DeepCutAuto
import Derived.Deep.CutBlock
namespace Go.Proofs.Ytcfpbihkodjlkaa
open Go.RowKit Go.Proofs.YtcfpbihkodjlkaaW.PrintWords Go.Proofs.YtcfpbihkodjlkaaW.PrintMore
open M (isB isB_range is_any)
set_option linter.unusedVariables false
set_option linter.unusedSimpArgs false
section
variable {w : World} {g T : Nat} {a e f : Int} {d : Bool} {s : ByteArray}
theorem erun_len : ∀ (l : List Int) (s : ES), (erun s l).1.length ≤ 5 * l.length
  | [], s => by simp [erun]
  | c :: l, s => by
    have h1 := eby_len s c
    have h2 := erun_len l (eby s c).2
    simp only [erun, List.length_append, List.length_cons]
    omega
/-- Feed of no scalars, by a machine that goes on no more: what waits is told. -/
theorem mfeed_nil (room : Int) (hn : (e == 0 && !d) = false) (own : List Value) (kept : ByteArray) (hl : kept.size ≤ 1000) (h : Enc w g T a e f d kept own) :
    Calls Try.prog 35 #[.pointer (some ⟨g, 0, none⟩), .slice none 0 0, .int .i64 room] w fun en w' => ∃ x y, en = .returned (.tuple #[.int .i64 0, .string x]) ∧ Enc w' g T a e f d y own ∧ Kp (fun k => k = g) w w' ∧ Given kept room x y := by
  have HD := Lib.hid h
  have HN := Lib.hid hn
  clear h hn
  go_enter Try.func35, Try.ntmps35
  go_wp2_with (first | (go_at_call 55; go_must (refine (enc_give room (by omega) HD.out).mono ?_); rintro e w1 ⟨x, y, rfl, he1, hk1, hg1⟩; have HE1 := Lib.hid he1; have HK1 := Lib.hid hk1; have HG1 := Lib.hid hg1; clear he1 hk1 hg1))
  refine wp_loop_rounds 1 ?_
  rw [rounds_succ]
  go_wp2_with fail
  go_ret2
  exact ⟨_, _, rfl, HE1.out, HK1.out, HG1.out⟩
theorem efeed_nil (room : Int) (hn : (e == 0 && !d) = false) (s0 : ES) (kept : ByteArray) (hl : kept.size ≤ 1000) (htb : Tab w s0.tb) (hne : s0.tb ≠ g) (h : EEn w g T a e f d kept (eown s0)) :
    Calls Try.prog 13 #[.pointer (some ⟨g, 0, none⟩), .slice none 0 0, .int .i64 room] w fun en w' => ∃ x y, en = .returned (.tuple #[.int .i64 0, .string x]) ∧ EEn w' g T a e f d y (eown s0) ∧ Kp (fun k => k = g) w w' ∧ bytesOf x = (bytesOf kept).take room.toNat ∧ bytesOf y = (bytesOf kept).drop room.toNat := by
  obtain ⟨kept, rfl, h⟩ := h
  rw [toT_size] at hl
  have HD := Lib.hid h
  have HN := Lib.hid hn
  have HT := Lib.hid htb
  have HNE := Lib.hid hne
  clear h htb hne hn
  go_enter Try.func13, Try.ntmps13
  go_wp2_with fail
  refine (mfeed_nil room HN.out _ kept hl HD.out).mono ?_
  rintro en w2 ⟨x, y, rfl, he, hk, hg⟩
  have hc5 : w2.cell? ⟨g, 5, none⟩ = some (.pointer (some ⟨s0.tb, 0, none⟩)) := enc_co he 0
  have HT2 := Lib.hid (HT.out.kp hk HNE.out)
  obtain ⟨hx, hy⟩ := hg.bytes
  have hx2 := congrArg List.length hx
  rw [List.length_take, bytesOf_length, bytesOf_length] at hx2
  have hx3 : x.size ≤ 100000 := by omega
  have HE := Lib.hid he
  have HK := Lib.hid hk
  have HX := Lib.hid hx
  have HY := Lib.hid hy
  clear he hk hx hy hg hx2
  go_wp2_with (go_at_call 36; go_must (refine (text_any x hx3 HT2.out).mono ?_); rintro e w3 ⟨rfl, hb3⟩; have HB3 := Lib.hid hb3; clear hb3)
  go_ret2
  refine ⟨_, _, rfl, ⟨y, rfl, blk_below HE.out HB3.out⟩, HK.out.trans (F1 := fun _ => False) (Kp.of_below HB3.out) (fun _ h => h.elim), ?_, ?_⟩
  · rw [toT_bytes, toT_bytes, HX.out, List.map_take]
  · rw [toT_bytes, toT_bytes, HY.out, List.map_drop]
/-- What holds at a round's head of write: j scalars were eaten. -/
structure WriteAt (w : World) (g T : Nat) (ls : List Int) (s0 : ES) (M j i : Nat) (x y : ByteArray) (AL : Option Addr) (nL cL : Nat) (wr : World) : Prop where
  le : j ≤ ls.length
  sc : ∀ c ∈ ls.take j, isB c = true
  by_ : bytesOf x ++ bytesOf y = (erun s0 (ls.take j)).1
  enc : EEn wr g T j 0 0 false y (eown (erun s0 (ls.take j)).2)
  kp : Kp (fun k => k = g) w wr
  few : y.size ≤ 5
  ok : eok (erun s0 (ls.take j)).2
  cnt : i ≤ M + j
  len : nL = ls.length - j
  cap : nL ≤ cL
  rd : ReadsInt w .u32 AL nL (ls.drop j)
  rg : ∀ ad, AL = some ad → 0 < nL → ad.block ≠ g
/-- What write hands back. -/
def WritePost (w : World) (g T : Nat) (ls : List Int) (s0 : ES) (en : Ending) (w' : World) : Prop :=
  ∃ (m : Nat) (x y : ByteArray), en = .returned (.tuple #[.string x, .bool true]) ∧ m ≤ ls.length ∧ (∀ c ∈ ls.take m, isB c = true) ∧ bytesOf x = (erun s0 (ls.take m)).1 ∧ Kp (fun k => k = g) w w' ∧ y.size = 0 ∧
    ((m = ls.length ∧ Enc w' g T m 0 0 true y (eown (erun s0 (ls.take m)).2)) ∨ (m < ls.length ∧ isB (ls.getD m 0) = false ∧ Enc w' g T m 2 m false y (eown (erun s0 (ls.take m)).2)))
theorem bytes_size {x y : ByteArray} {l : List Int} (h : bytesOf x ++ bytesOf y = l) : x.size + y.size = l.length := by
  have := congrArg List.length h
  rw [List.length_append, bytesOf_length, bytesOf_length] at this
  exact this
theorem getD_drop (ls : List Int) (j m : Nat) : (ls.drop j).getD m 0 = ls.getD (j + m) 0 := by
  rw [List.getD_eq_getElem?_getD, List.getD_eq_getElem?_getD, List.getElem?_drop]
theorem getD_take (ls : List Int) (n m : Nat) (h : m < n) : (ls.take n).getD m 0 = ls.getD m 0 := by
  rw [List.getD_eq_getElem?_getD, List.getD_eq_getElem?_getD, List.getElem?_take, if_pos h]
/-- One more piece was eaten and told. -/
theorem write_step {wr : World} {ls ps : List Int} {s0 : ES} {M j i m : Nat} {x y x2 y2 : ByteArray} {AL : Option Addr} {nL cL N : Nat} (h : WriteAt w g T ls s0 M j i x y AL nL cL wr) (hps : ps = (ls.drop j).take N) (hN : N ≤ nL) (hm : m ≤ ps.length) (hsc : ∀ c ∈ ps.take m, isB c = true)
    (hb : bytesOf x2 ++ bytesOf y2 = bytesOf y ++ (erun (erun s0 (ls.take j)).2 (ps.take m)).1) :
    ps.take m = (ls.drop j).take m ∧ j + m ≤ ls.length ∧ (∀ c ∈ ls.take (j + m), isB c = true) ∧ bytesOf (x ++ x2) ++ bytesOf y2 = (erun s0 (ls.take (j + m))).1 ∧ (erun (erun s0 (ls.take j)).2 (ps.take m)).2 = (erun s0 (ls.take (j + m))).2 := by
  have hle := h.le
  have hlen := h.len
  have hmN : m ≤ N := by rw [hps, List.length_take] at hm; omega
  have ep : ps.take m = (ls.drop j).take m := by rw [hps, List.take_take, Nat.min_eq_left hmN]
  have hml : j + m ≤ ls.length := by rw [hps, List.length_take, List.length_drop] at hm; omega
  have et : ls.take (j + m) = ls.take j ++ (ls.drop j).take m := List.take_add
  refine ⟨ep, hml, ?_, ?_, ?_⟩
  · rw [et]
    intro c hc
    rcases List.mem_append.1 hc with h9 | h9
    · exact h.sc c h9
    · exact hsc c (ep ▸ h9)
  · rw [et, erun_append, bytesOf_append, List.append_assoc, hb, ← List.append_assoc, h.by_, ep]
  · rw [et, erun_append, ep]
theorem write_next {w3 w4 : World} {ls : List Int} {s0 : ES} {M j i m nL : Nat} {x2 y2 : ByteArray} {A6 : Option Addr} {cL : Nat} (hlen : nL = ls.length - j) (h2 : j + m ≤ ls.length) (h3 : ∀ c ∈ ls.take (j + m), isB c = true) (h4 : bytesOf x2 ++ bytesOf y2 = (erun s0 (ls.take (j + m))).1) (hk : Kp (fun k => k = g) w w3) (hf : y2.size ≤ 5) (hok : eok (erun s0 (ls.take (j + m))).2)
    (hc : i + 1 ≤ M + (j + m)) (hcap : nL - m ≤ cL) (hrd : ReadsInt w .u32 A6 (nL - m) (ls.drop (j + m))) (hrg : ∀ ad, A6 = some ad → 0 < nL - m → ad.block ≠ g) (hb : Below w3.heap.size w3 w4) (he : EEn w4 g T ((j : Int) + m) 0 0 false y2 (eown (erun s0 (ls.take (j + m))).2)) :
    WriteAt w g T ls s0 M (j + m) (i + 1) x2 y2 A6 (nL - m) cL w4 :=
  ⟨h2, h3, h4, by rw [Int.natCast_add]; exact he, hk.trans (F1 := fun _ => False) (Kp.of_below hb) (fun _ hk => hk.elim), hf, hok, hc, by omega, hcap, hrd, hrg⟩
theorem write_done {w3 w4 w5 : World} {ls : List Int} {s0 : ES} {j m nL : Nat} {x2 y2 : ByteArray} (hlen : nL = ls.length - j) (hm : m = nL) (h2 : j + m ≤ ls.length) (h3 : ∀ c ∈ ls.take (j + m), isB c = true) (h4 : bytesOf x2 ++ bytesOf y2 = (erun s0 (ls.take (j + m))).1) (hk : Kp (fun k => k = g) w w3) (hy : y2.size = 0)
    (hb : Below w3.heap.size w3 w4) (he : EEn w5 g T ((j : Int) + m) 0 0 true y2 (eown (erun s0 (ls.take (j + m))).2)) (hk5 : Kp (fun k => k = g) w4 w5) :
    WritePost w g T ls s0 (.returned (.tuple #[.string x2, .bool true])) w5 := by
  have hy0 : bytesOf y2 = [] := List.eq_nil_of_length_eq_zero (by rw [bytesOf_length]; exact hy)
  rw [hy0, List.append_nil] at h4
  exact ⟨j + m, x2, y2, rfl, h2, h3, h4, (hk.trans (F1 := fun _ => False) (Kp.of_below hb) (fun _ hk => hk.elim)).tr hk5, hy, .inl ⟨by omega, by rw [Int.natCast_add]; exact (een_zero hy).1 he⟩⟩
theorem write_last {w3 w4 w5 : World} {ls : List Int} {s0 : ES} {j m nL : Nat} {x2 y2 : ByteArray} (hlen : nL = ls.length - j) (hm : m = nL) (h2 : j + m ≤ ls.length) (h3 : ∀ c ∈ ls.take (j + m), isB c = true) (h4 : bytesOf x2 = (erun s0 (ls.take (j + m))).1) (hk : Kp (fun k => k = g) w w3) (hy : y2.size = 0)
    (hb : Below w3.heap.size w3 w4) (he : EEn w5 g T ((j : Int) + m) 0 0 true y2 (eown (erun s0 (ls.take (j + m))).2)) (hk5 : Kp (fun k => k = g) w4 w5) :
    WritePost w g T ls s0 (.returned (.tuple #[.string x2, .bool true])) w5 :=
  ⟨j + m, x2, y2, rfl, h2, h3, h4, (hk.trans (F1 := fun _ => False) (Kp.of_below hb) (fun _ hk => hk.elim)).tr hk5, hy, .inl ⟨by omega, by rw [Int.natCast_add]; exact (een_zero hy).1 he⟩⟩
theorem write_wrong {w3 w4 : World} {ls P : List Int} {s0 : ES} {j m : Nat} {N : Int} {x2 y2 : ByteArray} (hP : (ls.drop j).take N.toNat = P) (hPL : P.length = N.toNat) (hlt : m < P.length) (hno : isB (P.getD m 0) = false) (h2 : j + m ≤ ls.length) (h3 : ∀ c ∈ ls.take (j + m), isB c = true) (h4 : bytesOf x2 ++ bytesOf y2 = (erun s0 (ls.take (j + m))).1) (hk : Kp (fun k => k = g) w w3) (hy : y2.size = 0)
    (hb : Below w3.heap.size w3 w4) (he : EEn w4 g T ((j : Int) + m) 2 ((j : Int) + m) false y2 (eown (erun s0 (ls.take (j + m))).2)) :
    WritePost w g T ls s0 (.returned (.tuple #[.string x2, .bool true])) w4 := by
  have hy0 : bytesOf y2 = [] := List.eq_nil_of_length_eq_zero (by rw [bytesOf_length]; exact hy)
  rw [hy0, List.append_nil] at h4
  refine ⟨j + m, x2, y2, rfl, h2, h3, h4, hk.trans (F1 := fun _ => False) (Kp.of_below hb) (fun _ hk => hk.elim), hy, .inr ⟨?_, ?_, by rw [Int.natCast_add]; exact (een_zero hy).1 he⟩⟩
  · have := congrArg List.length hP
    rw [List.length_take, List.length_drop] at this
    omega
  · rw [← hP, getD_take _ _ _ (by omega), getD_drop] at hno
    exact hno
set_option maxRecDepth 100000 in
set_option maxHeartbeats 4000000 in
theorem write_any (AL0 : Option Addr) (nL0 cL0 : Nat) (ls : List Int) (A1 A2 : Option Addr) (n1 c1 n2 c2 : Nat) (ps rs : List Int) (s0 : ES) (hs : eok s0) (ht : nL0 ≤ 100000) (hcl : nL0 ≤ cL0) (h1 : n1 ≤ 100000) (h2 : n2 ≤ 100000) (hls : ReadsInt w .u32 AL0 nL0 ls) (hwf : ∀ k, 0 ≤ ls.getD k 0 ∧ ls.getD k 0 ≤ 4294967295) (hp : ReadsInt w .i64 A1 n1 ps) (hr : ReadsInt w .i64 A2 n2 rs)
    (hlg : ∀ ad, AL0 = some ad → 0 < nL0 → ad.block ≠ g) (hpg : ∀ ad, A1 = some ad → 0 < n1 → ad.block ≠ g) (hrg : ∀ ad, A2 = some ad → 0 < n2 → ad.block ≠ g) (y0 : ByteArray) (hy0 : y0.size = 0) (htb : Tab w s0.tb) (hne : s0.tb ≠ g) (h : Enc w g T 0 0 0 false y0 (eown s0)) :
    Calls Try.prog 23 #[.pointer (some ⟨g, 0, none⟩), .slice AL0 nL0 cL0, .slice A1 n1 c1, .slice A2 n2 c2] w (WritePost w g T ls s0) := by
  have huF := fld0
  obtain ⟨i0, hi, hz0, hz1, hz2⟩ := info_parts infoU
  have HWF := Lib.hid hwf
  have HP := Lib.hid hp
  have HR := Lib.hid hr
  have HPG := Lib.hid hpg
  have HRG := Lib.hid hrg
  have HGL := Lib.hid h.lt
  have HTB := Lib.hid htb
  have HNE := Lib.hid hne
  have HLL := Lib.hid hls.1
  have hb0 : bytesOf y0 = [] := List.eq_nil_of_length_eq_zero (by rw [bytesOf_length]; exact hy0)
  have HS : Hid (WriteAt w g T ls s0 (max n1 n2) 0 0 ⟨#[]⟩ y0 AL0 nL0 cL0 w) := ⟨Nat.zero_le _, by simp, by rw [hb0]; rfl, (een_zero hy0).2 (by simpa [erun] using h), Kp.refl _ _, by omega, by simpa [erun] using hs, Nat.zero_le _, by rw [hls.1]; rfl, hcl, hls, hlg⟩
  clear hp hr hpg hrg h hs hls hlg hwf hb0 hy0 hcl htb hne
  go_enter Try.func23, Try.ntmps23
  go_wp2_with fail
  go_loopg [1, 10, 12] (n1 + n2 + 10 * nL0 + 8) (fun q u o k wr => ∃ (i j : Nat) (x y : ByteArray) (AL : Option Addr) (nL cL : Nat), q + i = n1 + n2 + 10 * nL0 + 8 ∧ k = .int .i64 i ∧ u = .slice AL nL cL ∧ o = .string x ∧ WriteAt w g T ls s0 (max n1 n2) j i x y AL nL cL wr)
  case atStart => exact ⟨0, 0, _, y0, _, _, _, rfl, rfl, rfl, rfl, HS.out⟩
  case round =>
    obtain ⟨i, j, x, y, AL, nL, cL, hq, rfl, rfl, rfl, hwa⟩ := hrel
    have hll := HLL.out
    have hle := hwa.le
    have hcnt := hwa.cnt
    have hlen := hwa.len
    have hcap := hwa.cap
    have hnl : nL ≤ 100000 := by omega
    have hii : i < n1 + n2 + 10 * nL0 + 8 := by omega
    have hposn : (0 : Int) ≤ nL := by omega
    have hj9 : j ≤ 100000 := by omega
    have hxs : x.size ≤ 1000000 := by
      have := bytes_size hwa.by_
      have := erun_len (ls.take j) s0
      rw [List.length_take] at this
      omega
    have HWA := Lib.hid hwa
    have HQ := Lib.hid hq
    have HLEN := Lib.hid hlen
    clear hq hwa hlen hll
    go_upto_if 40 with fail
    go_cut [13] (fun n wc => ∃ N : Int, n = .int .i64 N ∧ 0 ≤ N ∧ N ≤ nL ∧ (n1 ≤ i → N = nL) ∧ wr = wc)
    case first =>
      by_cases hi1 : i < n1
      · have hb1 : decide (i < n1) = true := by simp [hi1]
        have hp1 := reads_kp0 HP.out HWA.out.kp HPG.out
        obtain ⟨ad, rfl, hc⟩ := hp1.at_ (i : Int) (by omega) (by omega)
        rw [Int.toNat_natCast] at hc
        clear hp1
        go_wp2_with fail
        all_goals go_meet
        all_goals first | exact ⟨_, rfl, by omega, by omega, fun h => by omega, rfl⟩
      · have hb1 : decide (i < n1) = false := by simp [hi1]
        go_wp2_with fail
        all_goals go_meet
        all_goals exact ⟨_, rfl, by omega, by omega, fun h => rfl, rfl⟩
    case rest =>
      obtain ⟨N, rfl, hN0, hN1, hN2, rfl⟩ := hcut
      have HN2 := Lib.hid hN2
      clear hN2
      go_upto_if 51 with fail
      go_cut [14] (fun n wc => ∃ R : Int, n = .int .i64 R ∧ 0 ≤ R ∧ R ≤ 100 ∧ (n2 ≤ i → R = 8) ∧ wr = wc)
      case first =>
        by_cases hi1 : i < n2
        · have hb1 : decide (i < n2) = true := by simp [hi1]
          have hp1 := reads_kp0 HR.out HWA.out.kp HRG.out
          obtain ⟨ad, rfl, hc⟩ := hp1.at_ (i : Int) (by omega) (by omega)
          rw [Int.toNat_natCast] at hc
          clear hp1
          go_wp2_with fail
          all_goals go_meet
          all_goals first | exact ⟨_, rfl, by omega, by omega, fun h => by omega, rfl⟩
        · have hb1 : decide (i < n2) = false := by simp [hi1]
          go_wp2_with fail
          all_goals go_meet
          all_goals exact ⟨_, rfl, by omega, by omega, fun h => rfl, rfl⟩
      case rest =>
        obtain ⟨R, rfl, hR0, hR1, hR2, rfl⟩ := hcut
        have HR2 := Lib.hid hR2
        clear hR2
        have hcut1 := cut_to (P := Try.prog) 29 22 .i64 Try.underlying29 hi AL nL cL N (by omega) (by omega) hcap
        have HNN := Lib.hid (show N.toNat ≤ 100000 by omega)
        have HNIL := Lib.hid (own_lit wr wr.heap.size 22 .u32 [] (Nat.le_refl _) (by simp))
        have hrd1 : ReadsInt (wr.alloc (.cells #[] 22)) .u32 AL N.toNat ((ls.drop j).take N.toNat) := ((reads_kp0 HWA.out.rd HWA.out.kp HWA.out.rg).below (below_alloc (Below.refl _ _) _)).take_ _ (by omega)
        obtain ⟨P, hP⟩ : ∃ P, (ls.drop j).take N.toNat = P := ⟨_, rfl⟩
        rw [hP] at hrd1
        have HRT := Lib.hid hrd1
        have HPE := Lib.hid hP
        have HPL : Hid (P.length = N.toNat) := hrd1.1
        clear hrd1 hP
        go_wp2_with (first | (at_builtin; go_must (refine print_append_row (w0 := wr.alloc (.cells #[] 22)) wr.heap.size rfl (.tmp 60) (.tmp 63) 29 22 .u32 4 rfl Try.underlying29 infoU (by omega) (.slice (some ⟨wr.heap.size, 0, none⟩) 0 0) [] P AL N.toNat cL rfl rfl HNIL.out HRT.out (Below.refl _ _) (by simp) (by have := HNN.out; simp only [List.length_nil]; omega) ?_); intro v2 w2 ho2 hb2 hg2 hat2; rw [List.nil_append, HPL.out] at ho2; obtain ⟨A3, c3, rfl⟩ := own_slice ho2; have HO2 := Lib.hid ho2; have HB2 := Lib.hid hb2; clear ho2 hb2 hg2 hat2))
        have hbw : Below wr.heap.size wr w2 := (below_alloc (Below.refl _ _) _).trans HB2.out
        have HBW := Lib.hid hbw
        obtain ⟨A5, c5, he5, hrd5⟩ := own_reads HO2.out
        injection he5 with he5 _ he6
        subst he5 he6
        have hgl := Nat.lt_of_lt_of_le HGL.out HWA.out.kp.size
        have hag : ∀ ad, A3 = some ad → ad.block ≠ g := fun ad had he => by
          have := own_base HO2.out ad.block (by rw [had]; rfl)
          omega
        have hwp : ∀ k, 0 ≤ P.getD k 0 ∧ P.getD k 0 ≤ 4294967295 := by
          intro k
          rw [← HPE.out, List.getD_eq_getElem?_getD, List.getElem?_take]
          split
          · rw [List.getElem?_drop, ← List.getD_eq_getElem?_getD]; exact HWF.out _
          · simp
        have hyl : (bytesOf y).length ≤ 100 := by rw [bytesOf_length]; have := HWA.out.few; omega
        clear hbw
        refine (efeed_any A3 N.toNat c3 P R (erun s0 (ls.take j)).2 (bytesOf y) y rfl hyl HWA.out.ok hrd5 hag hwp (by omega) (by omega) (by omega) (by omega) (by omega) (by rw [erun_snd]; exact HTB.out.kp (HWA.out.kp.trans (F1 := fun _ => False) (Kp.of_below HBW.out) (fun _ hk => hk.elim)) HNE.out) (by rw [erun_snd]; exact HNE.out) (een_below HWA.out.enc HBW.out)).mono ?_
        rintro en w3 ⟨m, x2, y2, rfl, hm, hsc, hby, hk3, hxr, hfull, hfew, hok, hcase⟩
        rw [bytesOf_length] at hfew
        have hpl := HPL.out
        have hmN : (m : Int) ≤ N := by omega
        have hx2 : (x2.size : Int) ≤ R := by omega
        have hst := write_step HWA.out HPE.out.symm (by omega) hm hsc hby
        obtain ⟨hs1, hs2, hs3, hs4, hs5⟩ := hst
        have hkp3 : Kp (fun k => k = g) w w3 := (HWA.out.kp.trans (F1 := fun _ => False) (Kp.of_below HBW.out) (fun _ hk => hk.elim)).tr hk3
        have hfew2 : y2.size ≤ 5 := by have := HWA.out.few; omega
        rw [hs5] at hok hcase
        have hxs2 : x.size + x2.size ≤ 2000000 := by omega
        have hml : m ≤ nL := by omega
        have hcut2 := cut_from (P := Try.prog) 29 22 .i64 Try.underlying29 hi 1 hz1 AL nL cL (m : Int) (by omega) (by omega)
        rw [Int.toNat_natCast] at hcut2
        obtain ⟨A6, hA6⟩ : ∃ A6, (if cL = m then AL else AL.map (·.add (m * 1))) = A6 := ⟨_, rfl⟩
        simp only [hA6] at hcut2
        have hrd6 : ReadsInt w .u32 A6 (nL - m) (ls.drop (j + m)) := by
          have := HWA.out.rd.drop_ m hml HWA.out.cap
          rw [List.drop_drop] at this
          rw [← hA6, Nat.mul_one]
          exact this
        have hrg6 : ∀ ad, A6 = some ad → 0 < nL - m → ad.block ≠ g := by
          intro ad had hpos
          rw [← hA6] at had
          split at had
          · exact HWA.out.rg ad had (by omega)
          · cases hAL : AL with
            | none => rw [hAL] at had; cases had
            | some a0 =>
              rw [hAL] at had
              simp only [Option.map_some, Option.some.injEq] at had
              rw [← had, add_block]
              exact HWA.out.rg a0 hAL (by omega)
        have HRD6 := Lib.hid hrd6
        have HRG6 := Lib.hid hrg6
        have HS2 := Lib.hid hs2
        have HS3 := Lib.hid hs3
        have HS4 := Lib.hid hs4
        have HOK := Lib.hid hok
        have HKP3 := Lib.hid hkp3
        have HFULL := Lib.hid hfull
        have HBY := Lib.hid hby
        clear hA6 hrd6 hrg6 hs1 hs2 hs3 hs4 hs5 hok hkp3 hk3 hfull hby hsc hrd5 hag hwp hyl hgl hcut1
        rcases hcase with ⟨hen, hx⟩ | ⟨hlt, hno, hy0, hen⟩
        · have HE3 := Lib.hid hen
          have HX := Lib.hid hx
          clear hen hx
          by_cases hbr : m = nL ∧ n1 ≤ i
          · obtain ⟨hmeq, hni⟩ := hbr
            have hb1 : decide (n1 ≤ i) = true := by simp [hni]
            have he1 : (((nL - m : Nat) : Int) == 0) = true := by simp; omega
            have HM := Lib.hid hmeq
            clear hmeq
            go_wp2_with (first | (go_at_call 20; go_must (refine (een_fail HE3.out).mono ?_); rintro e w4 ⟨rfl, hb4⟩; have HB4 := Lib.hid hb4; have HE4 := Lib.hid (een_below HE3.out hb4); clear hb4) | (go_at_call 40; go_must (refine (een_end HE4.out).mono ?_); rintro e w5 ⟨rfl, he5, hk5⟩; have HE5 := Lib.hid he5; have HK5 := Lib.hid hk5; clear he5 hk5))
            by_cases hyz : y2.size = 0
            · have hyb : ((y2.size : Int) == 0) = true := by simp [hyz]
              have HYZ := Lib.hid hyz
              clear hyz
              refine wp_loop_rounds 1 ?_
              rw [rounds_succ]
              go_wp2_with (first | (go_at_call 41; go_must (refine (een_odone rfl HE5.out).mono ?_); rintro e w6 ⟨rfl, rfl⟩))
              go_ret2
              exact write_done HLEN.out HM.out HS2.out HS3.out HS4.out HKP3.out HYZ.out HB4.out HE5.out HK5.out
            · have hyb : ((y2.size : Int) == 0) = false := by simp [hyz]
              have HYZ : Hid (y2.size ≠ 0) := hyz
              clear hyz
              refine wp_loop_rounds 2 ?_
              rw [rounds_succ]
              go_wp2_with (first | (go_at_call 41; go_must (refine (een_odone rfl HE5.out).mono ?_); rintro e w6 ⟨rfl, rfl⟩))
              have hy8 : y2.size ≤ 1000 := by omega
              refine (efeed_nil 8 rfl (erun s0 (ls.take (j + m))).2 y2 hy8 (by rw [erun_snd]; exact HTB.out.kp ((HKP3.out.trans (F1 := fun _ => False) (Kp.of_below HB4.out) (fun _ hk => hk.elim)).tr HK5.out) HNE.out) (by rw [erun_snd]; exact HNE.out) HE5.out).mono ?_
              rintro en w7 ⟨x7, y7, rfl, he7, hk7, hg7⟩
              obtain ⟨g7, g8⟩ := hg7
              have hx7 := congrArg List.length g7
              have hy7 := congrArg List.length g8
              rw [List.length_take, bytesOf_length, bytesOf_length] at hx7
              rw [List.length_drop, bytesOf_length, bytesOf_length] at hy7
              have h8 : (8 : Int).toNat = 8 := rfl
              rw [h8] at hx7 hy7 g7
              have hx8 : x7.size ≤ 8 := by omega
              have hem : x7.toList.isEmpty = false := by rw [isEmpty_size]; exact decide_eq_false (by have := HYZ.out; omega)
              have hyb7 : ((y7.size : Int) == 0) = true := beq_iff_eq.2 (by omega)
              have hxs7 : x.size + x2.size + x7.size ≤ 3000000 := by omega
              have h9 : bytesOf (x ++ x2 ++ x7) = (erun s0 (ls.take (j + m))).1 := by
                rw [bytesOf_append, g7, List.take_of_length_le (by rw [bytesOf_length]; omega)]
                exact HS4.out
              have HY7 := Lib.hid (show y7.size = 0 by omega)
              have H9 := Lib.hid h9
              have HE7 := Lib.hid he7
              have HK7 := Lib.hid hk7
              clear g7 g8 hx7 hy7 h8 h9 he7 hk7
              go_wp2_with fail
              rw [rounds_succ]
              go_wp2_with (first | (go_at_call 41; go_must (refine (een_odone rfl HE7.out).mono ?_); rintro e w6 ⟨rfl, rfl⟩))
              go_ret2
              exact write_last HLEN.out HM.out HS2.out HS3.out H9.out HKP3.out HY7.out HB4.out HE7.out (HK5.out.tr HK7.out)
          · have hcn : i + 1 ≤ max n1 n2 + (j + m) ∧ (n1 ≤ i → n2 ≤ i → m ≠ 0) := by
              have key : n1 ≤ i → n2 ≤ i → m ≠ 0 := by
                intro h8 h9 h0
                have e1 := HN2.out h8
                have e2 := HR2.out h9
                rcases HX.out with h7 | h7
                · exact hbr ⟨by omega, h8⟩
                · have h6 := HFULL.out h7
                  have h5 := HBY.out
                  rw [h0] at h5
                  simp only [List.take_zero, erun, List.append_nil] at h5
                  have h4 := bytes_size h5
                  rw [bytesOf_length] at h4
                  have h3 := HWA.out.few
                  omega
              refine ⟨?_, key⟩
              rcases Nat.lt_or_ge i (max n1 n2) with h9 | h9
              · omega
              · have := key (by omega) (by omega)
                omega
            obtain ⟨hcn, hkey⟩ := hcn
            have HCN := Lib.hid hcn
            by_cases hni : n1 ≤ i
            · have hb1 : decide (n1 ≤ i) = true := by simp [hni]
              have he1 : (((nL - m : Nat) : Int) == 0) = false := by simp; omega
              by_cases hni2 : n2 ≤ i
              · have hb2 : decide (n2 ≤ i) = true := by simp [hni2]
                have hm0 : ((m : Int) == 0) = false := by have := hkey hni hni2; simp; omega
                clear hbr hcn hkey
                go_wp2_with (first | (go_at_call 20; go_must (refine (een_fail HE3.out).mono ?_); rintro e w4 ⟨rfl, hb4⟩; have HB4 := Lib.hid hb4; have HE4 := Lib.hid (een_below HE3.out hb4); clear hb4))
                go_roundg (gk - 1)
                case measure => have := HQ.out; omega
                case rel => exact ⟨i + 1, j + m, x ++ x2, y2, A6, nL - m, cL - m, by have := HQ.out; omega, rfl, rfl, rfl, write_next HLEN.out HS2.out HS3.out HS4.out HKP3.out hfew2 HOK.out HCN.out (by omega) HRD6.out HRG6.out HB4.out HE4.out⟩
              · have hb2 : decide (n2 ≤ i) = false := by simp; omega
                clear hbr hcn hkey
                go_wp2_with (first | (go_at_call 20; go_must (refine (een_fail HE3.out).mono ?_); rintro e w4 ⟨rfl, hb4⟩; have HB4 := Lib.hid hb4; have HE4 := Lib.hid (een_below HE3.out hb4); clear hb4))
                go_roundg (gk - 1)
                case measure => have := HQ.out; omega
                case rel => exact ⟨i + 1, j + m, x ++ x2, y2, A6, nL - m, cL - m, by have := HQ.out; omega, rfl, rfl, rfl, write_next HLEN.out HS2.out HS3.out HS4.out HKP3.out hfew2 HOK.out HCN.out (by omega) HRD6.out HRG6.out HB4.out HE4.out⟩
            · have hb1 : decide (n1 ≤ i) = false := by simp; omega
              by_cases hee : nL - m = 0
              · have he1 : (((nL - m : Nat) : Int) == 0) = true := by simp [hee]
                clear hbr hcn hkey hee
                go_wp2_with (first | (go_at_call 20; go_must (refine (een_fail HE3.out).mono ?_); rintro e w4 ⟨rfl, hb4⟩; have HB4 := Lib.hid hb4; have HE4 := Lib.hid (een_below HE3.out hb4); clear hb4))
                go_roundg (gk - 1)
                case measure => have := HQ.out; omega
                case rel => exact ⟨i + 1, j + m, x ++ x2, y2, A6, nL - m, cL - m, by have := HQ.out; omega, rfl, rfl, rfl, write_next HLEN.out HS2.out HS3.out HS4.out HKP3.out hfew2 HOK.out HCN.out (by omega) HRD6.out HRG6.out HB4.out HE4.out⟩
              · have he1 : (((nL - m : Nat) : Int) == 0) = false := by simp; omega
                clear hbr hcn hkey hee
                go_wp2_with (first | (go_at_call 20; go_must (refine (een_fail HE3.out).mono ?_); rintro e w4 ⟨rfl, hb4⟩; have HB4 := Lib.hid hb4; have HE4 := Lib.hid (een_below HE3.out hb4); clear hb4))
                go_roundg (gk - 1)
                case measure => have := HQ.out; omega
                case rel => exact ⟨i + 1, j + m, x ++ x2, y2, A6, nL - m, cL - m, by have := HQ.out; omega, rfl, rfl, rfl, write_next HLEN.out HS2.out HS3.out HS4.out HKP3.out hfew2 HOK.out HCN.out (by omega) HRD6.out HRG6.out HB4.out HE4.out⟩
        · have HE3 := Lib.hid hen
          have HLT := Lib.hid hlt
          have HNO := Lib.hid hno
          have HYZ := Lib.hid hy0
          have hyb : ((y2.size : Int) == 0) = true := by simp [hy0]
          clear hen hlt hno hy0
          go_wp2_with (first | (go_at_call 20; go_must (refine (een_fail HE3.out).mono ?_); rintro e w4 ⟨rfl, hb4⟩; have HB4 := Lib.hid hb4; have HE4 := Lib.hid (een_below HE3.out hb4); clear hb4) | (go_at_call 40; go_must (refine (een_end_no (e := 2) (d := false) rfl HE4.out).mono ?_); rintro e w5 ⟨rfl, rfl⟩))
          refine wp_loop_rounds 1 ?_
          rw [rounds_succ]
          go_wp2_with (first | (go_at_call 41; go_must (refine (een_odone (e := 2) (d := false) rfl HE4.out).mono ?_); rintro e w6 ⟨rfl, rfl⟩))
          go_ret2
          exact write_wrong HPE.out HPL.out HLT.out HNO.out HS2.out HS3.out HS4.out HKP3.out HYZ.out HB4.out HE4.out
end
end Go.Proofs.Ytcfpbihkodjlkaa
