/- The machine of layer 12, byte by byte: the contracts of scalar.Is, next. -/
import Derived.Test.YthodifmfamflpaaDec
import Derived.Test.YthodifmfamflpaaCp
import Derived.OpenShut
import Derived.Deep.RegionHeld3
import Derived.Laws.BytesArg
import Derived.Lib.ConvBytes
namespace Go.Proofs.Ythodifmfamflpaa
open Go.RowKit Go.Proofs.YthodifmfamflpaaW.PrintWords Go.Proofs.YthodifmfamflpaaW.PrintMore
set_option linter.unusedVariables false
set_option linter.unusedSimpArgs false
set_option maxRecDepth 20000
theorem ofn_size (l : List Int) : (strOfNums l).size = l.length := by rw [strOfNums_size]
theorem ofn_empty (l : List Int) (h : l ≠ []) : (strOfNums l).toList.isEmpty = false := by
  cases l with
  | nil => exact absurd rfl h
  | cons a l => rw [D.ofNums_toList]; rfl
theorem ofn_append (l m : List Int) : strOfNums l ++ strOfNums m = strOfNums (l ++ m) := by
  apply ByteArray.ext
  rw [ByteArray.data_append]
  unfold strOfNums
  simp
theorem bytes_ofn {l : List Int} (h : ∀ x ∈ l, 0 ≤ x ∧ x ≤ 255) : bytesOf (strOfNums l) = l := by
  unfold bytesOf strOfNums
  simp only [List.map_map]
  refine (List.map_congr_left (g := id) ?_).trans (List.map_id l)
  intro x hx
  have := h x hx
  simp only [Function.comp_apply, id, UInt8.toNat_ofNat']
  omega
theorem wrap_small {x : Int} (h1 : -9223372036854775808 ≤ x) (h2 : x < 9223372036854775808) : IntKind.i64.wrap x = x := by unfold IntKind.wrap; simp [IntKind.signed, IntKind.bits]; omega
theorem wrap_u32 {x : Int} (h1 : 0 ≤ x) (h2 : x ≤ 4294967295) : IntKind.u32.wrap x = x := by unfold IntKind.wrap; simp [IntKind.signed, IntKind.bits]; omega
theorem is_any (c : Int) (w : World) : Calls Try.prog 48 #[.int .u32 c] w fun en w' => en = .returned (.bool (isB c)) ∧ w = w' := by
  by_cases h1 : c ≤ 1114111
  · by_cases h2 : c < 55296
    · have e : isB c = true := by simp [isB, h1, h2]
      rw [e]
      go_enter Try.func48, Try.ntmps48
      go_wp2
      go_ret
      exact ⟨rfl, rfl⟩
    · by_cases h3 : 57343 < c
      · have e : isB c = true := by simp [isB, h1, h3]
        rw [e]
        go_enter Try.func48, Try.ntmps48
        go_wp2
        go_ret
        exact ⟨rfl, rfl⟩
      · have e : isB c = false := by simp [isB, h2, h3]
        rw [e]
        go_enter Try.func48, Try.ntmps48
        go_wp2
        go_ret
        exact ⟨rfl, rfl⟩
  · have e : isB c = false := by simp [isB, h1]
    rw [e]
    go_enter Try.func48, Try.ntmps48
    go_wp2
    go_ret
    exact ⟨rfl, rfl⟩
theorem range_any (s : ByteArray) (w : World) {lo hi n : Int} {ok : Bool} (hr : rngT (bytesOf s) = (lo, hi, n, ok)) : Calls Try.prog 56 #[.string s] w fun en w' => en = .returned (.tuple #[.int .i64 lo, .int .i64 hi, .int .i64 n, .bool ok]) ∧ ∃ k, w' = w.drewN k :=
  (PBocuExtends.diff_Range.calls 10 s lo hi n ok w ((range_at 0 s).trans (by rw [hr]))).mono fun e w' ⟨he, hd⟩ => ⟨he, hd.out⟩
theorem some_any (lo hi : Int) (w : World) : Calls Try.prog 57 #[.int .i64 lo, .int .i64 hi] w fun en w' => en = .returned (.bool (someF lo hi)) ∧ Below w.heap.size w w' := PBocuExtends.bocu_some.calls lo hi _ w (some_at lo hi)
theorem prev_any (c : Int) (h0 : 0 ≤ c) (h1 : c ≤ 1114111) (w : World) : Calls Try.prog 58 #[.int .u32 c] w fun en w' => en = .returned (.int .u32 (prevF c)) ∧ ∃ k, w' = w.drewN k :=
  (PBocuExtends.diff_Prev.calls 2 c (prevF c) w (by
    rw [D.prev_at 0, D.andNot_127 c h0 (by omega)]
    have := prevF_range h0 h1
    unfold prevF at this ⊢
    congr 1
    (repeat' split) <;> first | rfl | omega)).mono fun e w' ⟨he, hd⟩ => ⟨he, hd.out⟩
section
variable {w : World} {g T : Nat} {a e f : Int} {d : Bool} {v : Value} {xs : List Int} {pv : Int} {pt : List Int}
abbrev own7 (pv : Int) (pt : List Int) : List Value := [.int .u32 pv, .string (strOfNums pt)]
theorem conv_lit (W : World) (xs : List Int) (hm : xs.length ≤ 9223372036854775807) :
    Sem.run Try.prog (convert 81 9 (.slice (some ⟨W.heap.size, 0, none⟩) xs.length xs.length)) (W.alloc (.cells (nums .u8 xs).toArray 5)) = .ok (.string (strOfNums xs)) (W.alloc (.cells (nums .u8 xs).toArray 5)) :=
  own_string Try.underlying81 Try.underlying5 Try.underlying9 (own_lit W W.heap.size 5 .u8 xs (Nat.le_refl _) hm)
theorem conv1 (W : World) (x0 : Int) :
    Sem.run Try.prog (convert 81 9 (.slice (some ⟨W.heap.size, 0, none⟩) 1 1)) (W.alloc (.cells #[.int .u8 x0] 5)) = .ok (.string (strOfNums [x0])) (W.alloc (.cells #[.int .u8 x0] 5)) := by
  have := conv_lit W [x0] (by simp)
  simpa [nums] using this
theorem next_reset (h : Dec w g T a e f d v xs (own7 pv [])) :
    Calls Try.prog 43 #[.pointer (some ⟨g, 0, none⟩), .int .u8 255] w fun en w' => en = .returned (.bool true) ∧ Dec w' g T a e f d v xs (own7 64 []) ∧ Stp w g v w' v := by
  have c5 : w.cell? ⟨g, 5, none⟩ = some (.int .u32 pv) := h.co 0
  have c6 : w.cell? ⟨g, 6, none⟩ = some (.string (strOfNums [])) := h.co 1
  have f5 := h.fz 5
  have f6 := h.fz 6
  have H := Lib.hid h
  have hE : (strOfNums []).toList.isEmpty = true := by rw [D.ofNums_toList]; rfl
  clear h
  go_enter Try.func43, Try.ntmps43
  go_wp2_with fail
  go_ret
  exact ⟨rfl, H.out.set 0 _, Stp.mine ((Kp.refl _ _).setg _ _)⟩
theorem next_ctl (b : Int) (hb0 : 0 ≤ b) (hb1 : b ≤ 32) (hlx : xs.length + 1 ≤ 1073741824) (h : Dec w g T a e f d v xs (own7 pv [])) :
    Calls Try.prog 43 #[.pointer (some ⟨g, 0, none⟩), .int .u8 b] w fun en w' => en = .returned (.bool true) ∧ ∃ v', Dec w' g T a e f d v' (xs ++ [b]) (own7 (if b < 32 then 64 else pv) []) ∧ Stp w g v w' v' := by
  have c5 : w.cell? ⟨g, 5, none⟩ = some (.int .u32 pv) := h.co 0
  have c6 : w.cell? ⟨g, 6, none⟩ = some (.string (strOfNums [])) := h.co 1
  have f5 := h.fz 5
  have f6 := h.fz 6
  have H := Lib.hid h
  have hE : (strOfNums []).toList.isEmpty = true := by rw [D.ofNums_toList]; rfl
  have e1 : (b == 255) = false := by simp; omega
  have e2 : decide (b ≤ 32) = true := by simp; omega
  clear h
  by_cases hlt : b < 32
  · have e3 : decide (b < 32) = true := by simp; omega
    rw [if_pos hlt]
    go_enter Try.func43, Try.ntmps43
    go_wp2_with fail
    refine (dec_hold_one b rfl hlx H.out).mono ?_
    rintro en w1 ⟨rfl, v1, hd1', hs1⟩
    have HD1 := Lib.hid hd1'
    have HS1 := Lib.hid hs1
    have c51 : w1.cell? ⟨g, 5, none⟩ = some (.int .u32 pv) := HD1.out.co 0
    have f51 := HD1.out.fz 5
    clear hd1' hs1 c5 c6 f5 f6
    go_wp2_with fail
    go_ret
    exact ⟨rfl, v1, HD1.out.set 0 _, HS1.out.trans (Stp.mine ((Kp.refl _ _).setg _ _))⟩
  · have e3 : decide (b < 32) = false := by simp; omega
    rw [if_neg hlt]
    go_enter Try.func43, Try.ntmps43
    go_wp2_with fail
    refine (dec_hold_one b rfl hlx H.out).mono ?_
    rintro en w1 ⟨rfl, v1, hd1', hs1⟩
    have HD1 := Lib.hid hd1'
    have HS1 := Lib.hid hs1
    clear hd1' hs1 c5 c6 f5 f6
    go_wp2_with fail
    go_ret
    exact ⟨rfl, v1, HD1.out, HS1.out⟩
set_option maxHeartbeats 8000000 in
theorem next_rno_n (b : Int) (hb0 : 0 ≤ b) (hb1 : b ≤ 255) (hl : pt.length ≤ 3) (hpt : ∀ x ∈ pt, 0 ≤ x ∧ x ≤ 255) (hp : pt ≠ []) {lo hi n : Int} (hr : rngT (pt ++ [b]) = (lo, hi, n, false)) (h : Dec w g T a e f d v xs (own7 pv pt)) :
    Calls Try.prog 43 #[.pointer (some ⟨g, 0, none⟩), .int .u8 b] w fun en w' => en = .returned (.bool false) ∧ Dec w' g T a e f d v xs (own7 pv pt) ∧ Stp w g v w' v := by
  have c5 : w.cell? ⟨g, 5, none⟩ = some (.int .u32 pv) := h.co 0
  have c6 : w.cell? ⟨g, 6, none⟩ = some (.string (strOfNums pt)) := h.co 1
  have f5 := h.fz 5
  have f6 := h.fz 6
  have HLT := Lib.hid h.lt
  have HBL : Hid (Below w.heap.size w (w.alloc (.cells #[.int .u8 b] 5)).drew) := Lib.hid (((Kp.refl (fun _ => False) w).alloc _).drew.below (Nat.le_refl _) (fun _ h => h.elim))
  have HDA : Hid (Dec (w.alloc (.cells #[.int .u8 b] 5)).drew g T a e f d v xs (own7 pv pt)) := Lib.hid (h.below HBL.out)
  have cA : (w.alloc (.cells #[.int .u8 b] 5)).drew.cell? ⟨g, 6, none⟩ = some (.string (strOfNums pt)) := HDA.out.co 1
  clear h
  have hcv1 : Sem.run Try.prog (convert 81 9 (.slice (some ⟨w.heap.size, 0, none⟩) 1 1)) (w.alloc (.cells #[.int .u8 b] 5)).drew = .ok (.string (strOfNums [b])) (w.alloc (.cells #[.int .u8 b] 5)).drew := conv1 w.drew b
  have hcat : ¬ (9223372036854775807 < (strOfNums pt).size + (strOfNums [b]).size) := by rw [ofn_size, ofn_size]; simp; omega
  have HPB : Hid (strOfNums pt ++ strOfNums [b] = strOfNums (pt ++ [b])) := Lib.hid (ofn_append _ _)
  have HR := Lib.hid (show rngT (bytesOf (strOfNums pt ++ strOfNums [b])) = (lo, hi, n, false) by rw [HPB.out, bytes_ofn (by intro x hx; rcases List.mem_append.1 hx with h9 | h9; exact hpt x h9; rw [List.mem_singleton.1 h9]; exact ⟨hb0, hb1⟩)]; exact hr)
  clear hr
  have hE := ofn_empty pt hp
  go_enter Try.func43, Try.ntmps43
  go_wp2_with fail
  have HP := Lib.hid hpt
  have HL := Lib.hid hl
  clear hpt hl hp
  generalize strOfNums [b] = B at *
  generalize hPE : strOfNums pt = P at *
  have HE := Lib.hid hPE
  clear hPE
  go_cut [5] (fun p wx => p = .string (P ++ B) ∧ wx = (w.alloc (.cells #[.int .u8 b] 5)).drew)
  case first =>
    go_region_with (fail)
    all_goals (go_wp2_with fail)
    all_goals go_meet
    all_goals exact ⟨rfl, rfl⟩
  case rest =>
    obtain ⟨rfl, rfl⟩ := hcut
    go_wp2_with fail
    generalize (w.alloc (.cells #[.int .u8 b] 5)).drew = W1 at *
    refine (range_any _ _ HR.out).mono ?_
    rintro en w2 ⟨rfl, k, rfl⟩
    clear cA hcv1
    go_wp2_with fail
    go_quiet (fail)
    rename_i nq
    go_wp2_with fail
    go_ret
    exact ⟨rfl, (HDA.out.drewN k).drewN nq, (((Stp.refl w g v).below HBL.out).trans (Stp.mine (((Kp.refl _ _).drewN k).drewN nq)))⟩
set_option maxHeartbeats 8000000 in
theorem next_rno_e (b : Int) (hb0 : 0 ≤ b) (hb1 : b ≤ 255) (hl : pt.length ≤ 3) (hpt : ∀ x ∈ pt, 0 ≤ x ∧ x ≤ 255) (hp : pt = []) (hne : 33 ≤ b ∧ b ≤ 254) {lo hi n : Int} (hr : rngT (pt ++ [b]) = (lo, hi, n, false)) (h : Dec w g T a e f d v xs (own7 pv pt)) :
    Calls Try.prog 43 #[.pointer (some ⟨g, 0, none⟩), .int .u8 b] w fun en w' => en = .returned (.bool false) ∧ Dec w' g T a e f d v xs (own7 pv pt) ∧ Stp w g v w' v := by
  have c5 : w.cell? ⟨g, 5, none⟩ = some (.int .u32 pv) := h.co 0
  have c6 : w.cell? ⟨g, 6, none⟩ = some (.string (strOfNums pt)) := h.co 1
  have f5 := h.fz 5
  have f6 := h.fz 6
  have HLT := Lib.hid h.lt
  have HBL : Hid (Below w.heap.size w (w.alloc (.cells #[.int .u8 b] 5)).drew) := Lib.hid (((Kp.refl (fun _ => False) w).alloc _).drew.below (Nat.le_refl _) (fun _ h => h.elim))
  have HDA : Hid (Dec (w.alloc (.cells #[.int .u8 b] 5)).drew g T a e f d v xs (own7 pv pt)) := Lib.hid (h.below HBL.out)
  have cA : (w.alloc (.cells #[.int .u8 b] 5)).drew.cell? ⟨g, 6, none⟩ = some (.string (strOfNums pt)) := HDA.out.co 1
  clear h
  have hcv1 : Sem.run Try.prog (convert 81 9 (.slice (some ⟨w.heap.size, 0, none⟩) 1 1)) (w.alloc (.cells #[.int .u8 b] 5)).drew = .ok (.string (strOfNums [b])) (w.alloc (.cells #[.int .u8 b] 5)).drew := conv1 w.drew b
  have hcat : ¬ (9223372036854775807 < (strOfNums pt).size + (strOfNums [b]).size) := by rw [ofn_size, ofn_size]; simp; omega
  have HPB : Hid (strOfNums pt ++ strOfNums [b] = strOfNums (pt ++ [b])) := Lib.hid (ofn_append _ _)
  have HR := Lib.hid (show rngT (bytesOf (strOfNums pt ++ strOfNums [b])) = (lo, hi, n, false) by rw [HPB.out, bytes_ofn (by intro x hx; rcases List.mem_append.1 hx with h9 | h9; exact hpt x h9; rw [List.mem_singleton.1 h9]; exact ⟨hb0, hb1⟩)]; exact hr)
  clear hr
  have hE : (strOfNums pt).toList.isEmpty = true := by rw [hp]; rw [D.ofNums_toList]; rfl
  have e1 : (b == 255) = false := by simp; omega
  have e2 : decide (b ≤ 32) = false := by simp; omega
  clear hp hne
  go_enter Try.func43, Try.ntmps43
  go_wp2_with fail
  have HP := Lib.hid hpt
  have HL := Lib.hid hl
  clear hpt hl
  generalize strOfNums [b] = B at *
  generalize hPE : strOfNums pt = P at *
  have HE := Lib.hid hPE
  clear hPE
  go_cut [5] (fun p wx => p = .string (P ++ B) ∧ wx = (w.alloc (.cells #[.int .u8 b] 5)).drew)
  case first =>
    go_region_with (fail)
    all_goals (go_wp2_with fail)
    all_goals go_meet
    all_goals exact ⟨rfl, rfl⟩
  case rest =>
    obtain ⟨rfl, rfl⟩ := hcut
    go_wp2_with fail
    generalize (w.alloc (.cells #[.int .u8 b] 5)).drew = W1 at *
    refine (range_any _ _ HR.out).mono ?_
    rintro en w2 ⟨rfl, k, rfl⟩
    clear cA hcv1
    go_wp2_with fail
    go_quiet (fail)
    rename_i nq
    go_wp2_with fail
    go_ret
    exact ⟨rfl, (HDA.out.drewN k).drewN nq, (((Stp.refl w g v).below HBL.out).trans (Stp.mine (((Kp.refl _ _).drewN k).drewN nq)))⟩
set_option maxHeartbeats 8000000 in
theorem next_sno_n (b : Int) (hb0 : 0 ≤ b) (hb1 : b ≤ 255) (hl : pt.length ≤ 3) (hpt : ∀ x ∈ pt, 0 ≤ x ∧ x ≤ 255) (hp : pt ≠ []) {lo hi n : Int} (hr : rngT (pt ++ [b]) = (lo, hi, n, true)) (hlo : -20000000 ≤ lo ∧ lo ≤ 20000000) (hhi : -20000000 ≤ hi ∧ hi ≤ 20000000) (hpv : 64 ≤ pv ∧ pv ≤ 1114111) (hsm : someF (pv + lo) (pv + hi) = false) (h : Dec w g T a e f d v xs (own7 pv pt)) :
    Calls Try.prog 43 #[.pointer (some ⟨g, 0, none⟩), .int .u8 b] w fun en w' => en = .returned (.bool false) ∧ Dec w' g T a e f d v xs (own7 pv pt) ∧ Stp w g v w' v := by
  have c5 : w.cell? ⟨g, 5, none⟩ = some (.int .u32 pv) := h.co 0
  have c6 : w.cell? ⟨g, 6, none⟩ = some (.string (strOfNums pt)) := h.co 1
  have f5 := h.fz 5
  have f6 := h.fz 6
  have HLT := Lib.hid h.lt
  have HBL : Hid (Below w.heap.size w (w.alloc (.cells #[.int .u8 b] 5)).drew) := Lib.hid (((Kp.refl (fun _ => False) w).alloc _).drew.below (Nat.le_refl _) (fun _ h => h.elim))
  have HDA : Hid (Dec (w.alloc (.cells #[.int .u8 b] 5)).drew g T a e f d v xs (own7 pv pt)) := Lib.hid (h.below HBL.out)
  have cA : (w.alloc (.cells #[.int .u8 b] 5)).drew.cell? ⟨g, 6, none⟩ = some (.string (strOfNums pt)) := HDA.out.co 1
  clear h
  have hcv1 : Sem.run Try.prog (convert 81 9 (.slice (some ⟨w.heap.size, 0, none⟩) 1 1)) (w.alloc (.cells #[.int .u8 b] 5)).drew = .ok (.string (strOfNums [b])) (w.alloc (.cells #[.int .u8 b] 5)).drew := conv1 w.drew b
  have hcat : ¬ (9223372036854775807 < (strOfNums pt).size + (strOfNums [b]).size) := by rw [ofn_size, ofn_size]; simp; omega
  have HPB : Hid (strOfNums pt ++ strOfNums [b] = strOfNums (pt ++ [b])) := Lib.hid (ofn_append _ _)
  have HR := Lib.hid (show rngT (bytesOf (strOfNums pt ++ strOfNums [b])) = (lo, hi, n, true) by rw [HPB.out, bytes_ofn (by intro x hx; rcases List.mem_append.1 hx with h9 | h9; exact hpt x h9; rw [List.mem_singleton.1 h9]; exact ⟨hb0, hb1⟩)]; exact hr)
  clear hr
  have hE := ofn_empty pt hp
  have HSM := Lib.hid hsm
  clear hsm
  go_enter Try.func43, Try.ntmps43
  go_wp2_with fail
  have HP := Lib.hid hpt
  have HL := Lib.hid hl
  clear hpt hl hp
  generalize strOfNums [b] = B at *
  generalize hPE : strOfNums pt = P at *
  have HE := Lib.hid hPE
  clear hPE
  go_cut [5] (fun p wx => p = .string (P ++ B) ∧ wx = (w.alloc (.cells #[.int .u8 b] 5)).drew)
  case first =>
    go_region_with (fail)
    all_goals (go_wp2_with fail)
    all_goals go_meet
    all_goals exact ⟨rfl, rfl⟩
  case rest =>
    obtain ⟨rfl, rfl⟩ := hcut
    go_wp2_with fail
    generalize (w.alloc (.cells #[.int .u8 b] 5)).drew = W1 at *
    refine (range_any _ _ HR.out).mono ?_
    rintro en w2 ⟨rfl, k, rfl⟩
    clear cA hcv1
    have HD2 : Hid (Dec (W1.drewN k) g T a e f d v xs (own7 pv pt)) := Lib.hid (HDA.out.drewN k)
    have HS2 : Hid (Stp w g v (W1.drewN k) v) := Lib.hid (((Stp.refl w g v).below HBL.out).trans (Stp.mine ((Kp.refl _ _).drewN k)))
    generalize W1.drewN k = W2 at *
    have c52 : W2.cell? ⟨g, 5, none⟩ = some (.int .u32 pv) := HD2.out.co 0
    have c52d : W2.drew.cell? ⟨g, 5, none⟩ = some (.int .u32 pv) := HD2.out.co 0
    have hw1 : IntKind.i64.wrap (pv + lo) = pv + lo := wrap_small (by omega) (by omega)
    have hw2 : IntKind.i64.wrap (pv + hi) = pv + hi := wrap_small (by omega) (by omega)
    have hw3 : IntKind.i64.wrap pv = pv := wrap_small (by omega) (by omega)
    clear c5 c6 f5 f6 HDA HBL HR HLT
    go_wp2_with fail
    go_region_held3 (fun w' => w'.cell? ⟨g, 5, none⟩ = some (.int .u32 pv)) (first | assumption | go_keep) (first
      | (go_at_call 57; refine (some_any (pv + lo) (pv + hi) _).mono ?_; rw [HSM.out]; rintro en w3 ⟨rfl, hb3⟩; have HD3 : Hid (Dec w3 g T a e f d v xs (own7 pv pt)) := Lib.hid (HD2.out.drew.below hb3); have HS3 : Hid (Stp w g v w3 v) := Lib.hid ((HS2.out.trans (Stp.mine ((Kp.refl _ _).drew))).below hb3); have c53 : w3.cell? ⟨g, 5, none⟩ = some (.int .u32 pv) := HD3.out.co 0; clear hb3)
      | (fail))
    go_wp2_with fail
    go_ret
    exact ⟨rfl, HD3.out, HS3.out⟩
set_option maxHeartbeats 8000000 in
theorem next_sno_e (b : Int) (hb0 : 0 ≤ b) (hb1 : b ≤ 255) (hl : pt.length ≤ 3) (hpt : ∀ x ∈ pt, 0 ≤ x ∧ x ≤ 255) (hp : pt = []) (hne : 33 ≤ b ∧ b ≤ 254) {lo hi n : Int} (hr : rngT (pt ++ [b]) = (lo, hi, n, true)) (hlo : -20000000 ≤ lo ∧ lo ≤ 20000000) (hhi : -20000000 ≤ hi ∧ hi ≤ 20000000) (hpv : 64 ≤ pv ∧ pv ≤ 1114111) (hsm : someF (pv + lo) (pv + hi) = false) (h : Dec w g T a e f d v xs (own7 pv pt)) :
    Calls Try.prog 43 #[.pointer (some ⟨g, 0, none⟩), .int .u8 b] w fun en w' => en = .returned (.bool false) ∧ Dec w' g T a e f d v xs (own7 pv pt) ∧ Stp w g v w' v := by
  have c5 : w.cell? ⟨g, 5, none⟩ = some (.int .u32 pv) := h.co 0
  have c6 : w.cell? ⟨g, 6, none⟩ = some (.string (strOfNums pt)) := h.co 1
  have f5 := h.fz 5
  have f6 := h.fz 6
  have HLT := Lib.hid h.lt
  have HBL : Hid (Below w.heap.size w (w.alloc (.cells #[.int .u8 b] 5)).drew) := Lib.hid (((Kp.refl (fun _ => False) w).alloc _).drew.below (Nat.le_refl _) (fun _ h => h.elim))
  have HDA : Hid (Dec (w.alloc (.cells #[.int .u8 b] 5)).drew g T a e f d v xs (own7 pv pt)) := Lib.hid (h.below HBL.out)
  have cA : (w.alloc (.cells #[.int .u8 b] 5)).drew.cell? ⟨g, 6, none⟩ = some (.string (strOfNums pt)) := HDA.out.co 1
  clear h
  have hcv1 : Sem.run Try.prog (convert 81 9 (.slice (some ⟨w.heap.size, 0, none⟩) 1 1)) (w.alloc (.cells #[.int .u8 b] 5)).drew = .ok (.string (strOfNums [b])) (w.alloc (.cells #[.int .u8 b] 5)).drew := conv1 w.drew b
  have hcat : ¬ (9223372036854775807 < (strOfNums pt).size + (strOfNums [b]).size) := by rw [ofn_size, ofn_size]; simp; omega
  have HPB : Hid (strOfNums pt ++ strOfNums [b] = strOfNums (pt ++ [b])) := Lib.hid (ofn_append _ _)
  have HR := Lib.hid (show rngT (bytesOf (strOfNums pt ++ strOfNums [b])) = (lo, hi, n, true) by rw [HPB.out, bytes_ofn (by intro x hx; rcases List.mem_append.1 hx with h9 | h9; exact hpt x h9; rw [List.mem_singleton.1 h9]; exact ⟨hb0, hb1⟩)]; exact hr)
  clear hr
  have hE : (strOfNums pt).toList.isEmpty = true := by rw [hp]; rw [D.ofNums_toList]; rfl
  have e1 : (b == 255) = false := by simp; omega
  have e2 : decide (b ≤ 32) = false := by simp; omega
  clear hp hne
  have HSM := Lib.hid hsm
  clear hsm
  go_enter Try.func43, Try.ntmps43
  go_wp2_with fail
  have HP := Lib.hid hpt
  have HL := Lib.hid hl
  clear hpt hl
  generalize strOfNums [b] = B at *
  generalize hPE : strOfNums pt = P at *
  have HE := Lib.hid hPE
  clear hPE
  go_cut [5] (fun p wx => p = .string (P ++ B) ∧ wx = (w.alloc (.cells #[.int .u8 b] 5)).drew)
  case first =>
    go_region_with (fail)
    all_goals (go_wp2_with fail)
    all_goals go_meet
    all_goals exact ⟨rfl, rfl⟩
  case rest =>
    obtain ⟨rfl, rfl⟩ := hcut
    go_wp2_with fail
    generalize (w.alloc (.cells #[.int .u8 b] 5)).drew = W1 at *
    refine (range_any _ _ HR.out).mono ?_
    rintro en w2 ⟨rfl, k, rfl⟩
    clear cA hcv1
    have HD2 : Hid (Dec (W1.drewN k) g T a e f d v xs (own7 pv pt)) := Lib.hid (HDA.out.drewN k)
    have HS2 : Hid (Stp w g v (W1.drewN k) v) := Lib.hid (((Stp.refl w g v).below HBL.out).trans (Stp.mine ((Kp.refl _ _).drewN k)))
    generalize W1.drewN k = W2 at *
    have c52 : W2.cell? ⟨g, 5, none⟩ = some (.int .u32 pv) := HD2.out.co 0
    have c52d : W2.drew.cell? ⟨g, 5, none⟩ = some (.int .u32 pv) := HD2.out.co 0
    have hw1 : IntKind.i64.wrap (pv + lo) = pv + lo := wrap_small (by omega) (by omega)
    have hw2 : IntKind.i64.wrap (pv + hi) = pv + hi := wrap_small (by omega) (by omega)
    have hw3 : IntKind.i64.wrap pv = pv := wrap_small (by omega) (by omega)
    clear c5 c6 f5 f6 HDA HBL HR HLT
    go_wp2_with fail
    go_region_held3 (fun w' => w'.cell? ⟨g, 5, none⟩ = some (.int .u32 pv)) (first | assumption | go_keep) (first
      | (go_at_call 57; refine (some_any (pv + lo) (pv + hi) _).mono ?_; rw [HSM.out]; rintro en w3 ⟨rfl, hb3⟩; have HD3 : Hid (Dec w3 g T a e f d v xs (own7 pv pt)) := Lib.hid (HD2.out.drew.below hb3); have HS3 : Hid (Stp w g v w3 v) := Lib.hid ((HS2.out.trans (Stp.mine ((Kp.refl _ _).drew))).below hb3); have c53 : w3.cell? ⟨g, 5, none⟩ = some (.int .u32 pv) := HD3.out.co 0; clear hb3)
      | (fail))
    go_wp2_with fail
    go_ret
    exact ⟨rfl, HD3.out, HS3.out⟩
set_option maxHeartbeats 8000000 in
theorem next_more_n (b : Int) (hb0 : 0 ≤ b) (hb1 : b ≤ 255) (hl : pt.length ≤ 3) (hpt : ∀ x ∈ pt, 0 ≤ x ∧ x ≤ 255) (hp : pt ≠ []) {lo hi n : Int} (hr : rngT (pt ++ [b]) = (lo, hi, n, true)) (hlo : -20000000 ≤ lo ∧ lo ≤ 20000000) (hhi : -20000000 ≤ hi ∧ hi ≤ 20000000) (hpv : 64 ≤ pv ∧ pv ≤ 1114111) (hsm : someF (pv + lo) (pv + hi) = true) (hn : (pt.length : Int) + 1 ≠ n) (h : Dec w g T a e f d v xs (own7 pv pt)) :
    Calls Try.prog 43 #[.pointer (some ⟨g, 0, none⟩), .int .u8 b] w fun en w' => en = .returned (.bool true) ∧ Dec w' g T a e f d v xs (own7 pv (pt ++ [b])) ∧ Stp w g v w' v := by
  have c5 : w.cell? ⟨g, 5, none⟩ = some (.int .u32 pv) := h.co 0
  have c6 : w.cell? ⟨g, 6, none⟩ = some (.string (strOfNums pt)) := h.co 1
  have f5 := h.fz 5
  have f6 := h.fz 6
  have HLT := Lib.hid h.lt
  have HBL : Hid (Below w.heap.size w (w.alloc (.cells #[.int .u8 b] 5)).drew) := Lib.hid (((Kp.refl (fun _ => False) w).alloc _).drew.below (Nat.le_refl _) (fun _ h => h.elim))
  have HDA : Hid (Dec (w.alloc (.cells #[.int .u8 b] 5)).drew g T a e f d v xs (own7 pv pt)) := Lib.hid (h.below HBL.out)
  have cA : (w.alloc (.cells #[.int .u8 b] 5)).drew.cell? ⟨g, 6, none⟩ = some (.string (strOfNums pt)) := HDA.out.co 1
  clear h
  have hcv1 : Sem.run Try.prog (convert 81 9 (.slice (some ⟨w.heap.size, 0, none⟩) 1 1)) (w.alloc (.cells #[.int .u8 b] 5)).drew = .ok (.string (strOfNums [b])) (w.alloc (.cells #[.int .u8 b] 5)).drew := conv1 w.drew b
  have hcat : ¬ (9223372036854775807 < (strOfNums pt).size + (strOfNums [b]).size) := by rw [ofn_size, ofn_size]; simp; omega
  have HPB : Hid (strOfNums pt ++ strOfNums [b] = strOfNums (pt ++ [b])) := Lib.hid (ofn_append _ _)
  have HR := Lib.hid (show rngT (bytesOf (strOfNums pt ++ strOfNums [b])) = (lo, hi, n, true) by rw [HPB.out, bytes_ofn (by intro x hx; rcases List.mem_append.1 hx with h9 | h9; exact hpt x h9; rw [List.mem_singleton.1 h9]; exact ⟨hb0, hb1⟩)]; exact hr)
  clear hr
  have hne2 : (((strOfNums pt).size : Int) + ((strOfNums [b]).size : Int) == n) = false := by rw [ofn_size, ofn_size]; simp; omega
  have hE := ofn_empty pt hp
  have HSM := Lib.hid hsm
  clear hsm
  go_enter Try.func43, Try.ntmps43
  go_wp2_with fail
  have HP := Lib.hid hpt
  have HL := Lib.hid hl
  clear hpt hl hp
  generalize strOfNums [b] = B at *
  generalize hPE : strOfNums pt = P at *
  have HE := Lib.hid hPE
  clear hPE
  go_cut [5] (fun p wx => p = .string (P ++ B) ∧ wx = (w.alloc (.cells #[.int .u8 b] 5)).drew)
  case first =>
    go_region_with (fail)
    all_goals (go_wp2_with fail)
    all_goals go_meet
    all_goals exact ⟨rfl, rfl⟩
  case rest =>
    obtain ⟨rfl, rfl⟩ := hcut
    go_wp2_with fail
    generalize (w.alloc (.cells #[.int .u8 b] 5)).drew = W1 at *
    refine (range_any _ _ HR.out).mono ?_
    rintro en w2 ⟨rfl, k, rfl⟩
    clear cA hcv1
    have HD2 : Hid (Dec (W1.drewN k) g T a e f d v xs (own7 pv pt)) := Lib.hid (HDA.out.drewN k)
    have HS2 : Hid (Stp w g v (W1.drewN k) v) := Lib.hid (((Stp.refl w g v).below HBL.out).trans (Stp.mine ((Kp.refl _ _).drewN k)))
    generalize W1.drewN k = W2 at *
    have c52 : W2.cell? ⟨g, 5, none⟩ = some (.int .u32 pv) := HD2.out.co 0
    have c52d : W2.drew.cell? ⟨g, 5, none⟩ = some (.int .u32 pv) := HD2.out.co 0
    have hw1 : IntKind.i64.wrap (pv + lo) = pv + lo := wrap_small (by omega) (by omega)
    have hw2 : IntKind.i64.wrap (pv + hi) = pv + hi := wrap_small (by omega) (by omega)
    have hw3 : IntKind.i64.wrap pv = pv := wrap_small (by omega) (by omega)
    clear c5 c6 f5 f6 HDA HBL HR HLT
    go_wp2_with fail
    go_region_held3 (fun w' => w'.cell? ⟨g, 5, none⟩ = some (.int .u32 pv)) (first | assumption | go_keep) (first
      | (go_at_call 57; refine (some_any (pv + lo) (pv + hi) _).mono ?_; rw [HSM.out]; rintro en w3 ⟨rfl, hb3⟩; have HD3 : Hid (Dec w3 g T a e f d v xs (own7 pv pt)) := Lib.hid (HD2.out.drew.below hb3); have HS3 : Hid (Stp w g v w3 v) := Lib.hid ((HS2.out.trans (Stp.mine ((Kp.refl _ _).drew))).below hb3); have c53 : w3.cell? ⟨g, 5, none⟩ = some (.int .u32 pv) := HD3.out.co 0; clear hb3)
      | (fail))
    have c63 : w3.cell? ⟨g, 6, none⟩ = some (.string P) := HE.out ▸ HD3.out.co 1
    have f63 := HD3.out.fz 6
    go_wp2_with fail
    go_ret
    refine ⟨rfl, ?_, HS3.out.trans (Stp.mine ((Kp.refl _ _).setg _ _))⟩
    have h9 := HD3.out.set 1 (.string (P ++ B))
    rw [HPB.out] at h9 ⊢
    exact h9
set_option maxHeartbeats 8000000 in
theorem next_more_e (b : Int) (hb0 : 0 ≤ b) (hb1 : b ≤ 255) (hl : pt.length ≤ 3) (hpt : ∀ x ∈ pt, 0 ≤ x ∧ x ≤ 255) (hp : pt = []) (hne : 33 ≤ b ∧ b ≤ 254) {lo hi n : Int} (hr : rngT (pt ++ [b]) = (lo, hi, n, true)) (hlo : -20000000 ≤ lo ∧ lo ≤ 20000000) (hhi : -20000000 ≤ hi ∧ hi ≤ 20000000) (hpv : 64 ≤ pv ∧ pv ≤ 1114111) (hsm : someF (pv + lo) (pv + hi) = true) (hn : (pt.length : Int) + 1 ≠ n) (h : Dec w g T a e f d v xs (own7 pv pt)) :
    Calls Try.prog 43 #[.pointer (some ⟨g, 0, none⟩), .int .u8 b] w fun en w' => en = .returned (.bool true) ∧ Dec w' g T a e f d v xs (own7 pv (pt ++ [b])) ∧ Stp w g v w' v := by
  have c5 : w.cell? ⟨g, 5, none⟩ = some (.int .u32 pv) := h.co 0
  have c6 : w.cell? ⟨g, 6, none⟩ = some (.string (strOfNums pt)) := h.co 1
  have f5 := h.fz 5
  have f6 := h.fz 6
  have HLT := Lib.hid h.lt
  have HBL : Hid (Below w.heap.size w (w.alloc (.cells #[.int .u8 b] 5)).drew) := Lib.hid (((Kp.refl (fun _ => False) w).alloc _).drew.below (Nat.le_refl _) (fun _ h => h.elim))
  have HDA : Hid (Dec (w.alloc (.cells #[.int .u8 b] 5)).drew g T a e f d v xs (own7 pv pt)) := Lib.hid (h.below HBL.out)
  have cA : (w.alloc (.cells #[.int .u8 b] 5)).drew.cell? ⟨g, 6, none⟩ = some (.string (strOfNums pt)) := HDA.out.co 1
  clear h
  have hcv1 : Sem.run Try.prog (convert 81 9 (.slice (some ⟨w.heap.size, 0, none⟩) 1 1)) (w.alloc (.cells #[.int .u8 b] 5)).drew = .ok (.string (strOfNums [b])) (w.alloc (.cells #[.int .u8 b] 5)).drew := conv1 w.drew b
  have hcat : ¬ (9223372036854775807 < (strOfNums pt).size + (strOfNums [b]).size) := by rw [ofn_size, ofn_size]; simp; omega
  have HPB : Hid (strOfNums pt ++ strOfNums [b] = strOfNums (pt ++ [b])) := Lib.hid (ofn_append _ _)
  have HR := Lib.hid (show rngT (bytesOf (strOfNums pt ++ strOfNums [b])) = (lo, hi, n, true) by rw [HPB.out, bytes_ofn (by intro x hx; rcases List.mem_append.1 hx with h9 | h9; exact hpt x h9; rw [List.mem_singleton.1 h9]; exact ⟨hb0, hb1⟩)]; exact hr)
  clear hr
  have hne2 : (((strOfNums pt).size : Int) + ((strOfNums [b]).size : Int) == n) = false := by rw [ofn_size, ofn_size]; simp; omega
  have hE : (strOfNums pt).toList.isEmpty = true := by rw [hp]; rw [D.ofNums_toList]; rfl
  have e1 : (b == 255) = false := by simp; omega
  have e2 : decide (b ≤ 32) = false := by simp; omega
  clear hp hne
  have HSM := Lib.hid hsm
  clear hsm
  go_enter Try.func43, Try.ntmps43
  go_wp2_with fail
  have HP := Lib.hid hpt
  have HL := Lib.hid hl
  clear hpt hl
  generalize strOfNums [b] = B at *
  generalize hPE : strOfNums pt = P at *
  have HE := Lib.hid hPE
  clear hPE
  go_cut [5] (fun p wx => p = .string (P ++ B) ∧ wx = (w.alloc (.cells #[.int .u8 b] 5)).drew)
  case first =>
    go_region_with (fail)
    all_goals (go_wp2_with fail)
    all_goals go_meet
    all_goals exact ⟨rfl, rfl⟩
  case rest =>
    obtain ⟨rfl, rfl⟩ := hcut
    go_wp2_with fail
    generalize (w.alloc (.cells #[.int .u8 b] 5)).drew = W1 at *
    refine (range_any _ _ HR.out).mono ?_
    rintro en w2 ⟨rfl, k, rfl⟩
    clear cA hcv1
    have HD2 : Hid (Dec (W1.drewN k) g T a e f d v xs (own7 pv pt)) := Lib.hid (HDA.out.drewN k)
    have HS2 : Hid (Stp w g v (W1.drewN k) v) := Lib.hid (((Stp.refl w g v).below HBL.out).trans (Stp.mine ((Kp.refl _ _).drewN k)))
    generalize W1.drewN k = W2 at *
    have c52 : W2.cell? ⟨g, 5, none⟩ = some (.int .u32 pv) := HD2.out.co 0
    have c52d : W2.drew.cell? ⟨g, 5, none⟩ = some (.int .u32 pv) := HD2.out.co 0
    have hw1 : IntKind.i64.wrap (pv + lo) = pv + lo := wrap_small (by omega) (by omega)
    have hw2 : IntKind.i64.wrap (pv + hi) = pv + hi := wrap_small (by omega) (by omega)
    have hw3 : IntKind.i64.wrap pv = pv := wrap_small (by omega) (by omega)
    clear c5 c6 f5 f6 HDA HBL HR HLT
    go_wp2_with fail
    go_region_held3 (fun w' => w'.cell? ⟨g, 5, none⟩ = some (.int .u32 pv)) (first | assumption | go_keep) (first
      | (go_at_call 57; refine (some_any (pv + lo) (pv + hi) _).mono ?_; rw [HSM.out]; rintro en w3 ⟨rfl, hb3⟩; have HD3 : Hid (Dec w3 g T a e f d v xs (own7 pv pt)) := Lib.hid (HD2.out.drew.below hb3); have HS3 : Hid (Stp w g v w3 v) := Lib.hid ((HS2.out.trans (Stp.mine ((Kp.refl _ _).drew))).below hb3); have c53 : w3.cell? ⟨g, 5, none⟩ = some (.int .u32 pv) := HD3.out.co 0; clear hb3)
      | (fail))
    have c63 : w3.cell? ⟨g, 6, none⟩ = some (.string P) := HE.out ▸ HD3.out.co 1
    have f63 := HD3.out.fz 6
    go_wp2_with fail
    go_ret
    refine ⟨rfl, ?_, HS3.out.trans (Stp.mine ((Kp.refl _ _).setg _ _))⟩
    have h9 := HD3.out.set 1 (.string (P ++ B))
    rw [HPB.out] at h9 ⊢
    exact h9
set_option maxHeartbeats 8000000 in
theorem next_all_n (b : Int) (hb0 : 0 ≤ b) (hb1 : b ≤ 255) (hl : pt.length ≤ 3) (hpt : ∀ x ∈ pt, 0 ≤ x ∧ x ≤ 255) (hp : pt ≠ []) {lo hi n : Int} (hr : rngT (pt ++ [b]) = (lo, hi, n, true)) (hlo : -20000000 ≤ lo ∧ lo ≤ 20000000) (hhi : -20000000 ≤ hi ∧ hi ≤ 20000000) (hpv : 64 ≤ pv ∧ pv ≤ 1114111) (hsm : someF (pv + lo) (pv + hi) = true) (hn : (pt.length : Int) + 1 = n) (hlx : xs.length + 1 ≤ 1073741824) (hc0 : 33 ≤ pv + lo) (hc1 : pv + lo ≤ 1114111) (h : Dec w g T a e f d v xs (own7 pv pt)) :
    Calls Try.prog 43 #[.pointer (some ⟨g, 0, none⟩), .int .u8 b] w fun en w' => en = .returned (.bool true) ∧ ∃ v', Dec w' g T a e f d v' (xs ++ [pv + lo]) (own7 (prevF (pv + lo)) []) ∧ Stp w g v w' v' := by
  have c5 : w.cell? ⟨g, 5, none⟩ = some (.int .u32 pv) := h.co 0
  have c6 : w.cell? ⟨g, 6, none⟩ = some (.string (strOfNums pt)) := h.co 1
  have f5 := h.fz 5
  have f6 := h.fz 6
  have HLT := Lib.hid h.lt
  have HBL : Hid (Below w.heap.size w (w.alloc (.cells #[.int .u8 b] 5)).drew) := Lib.hid (((Kp.refl (fun _ => False) w).alloc _).drew.below (Nat.le_refl _) (fun _ h => h.elim))
  have HDA : Hid (Dec (w.alloc (.cells #[.int .u8 b] 5)).drew g T a e f d v xs (own7 pv pt)) := Lib.hid (h.below HBL.out)
  have cA : (w.alloc (.cells #[.int .u8 b] 5)).drew.cell? ⟨g, 6, none⟩ = some (.string (strOfNums pt)) := HDA.out.co 1
  clear h
  have hcv1 : Sem.run Try.prog (convert 81 9 (.slice (some ⟨w.heap.size, 0, none⟩) 1 1)) (w.alloc (.cells #[.int .u8 b] 5)).drew = .ok (.string (strOfNums [b])) (w.alloc (.cells #[.int .u8 b] 5)).drew := conv1 w.drew b
  have hcat : ¬ (9223372036854775807 < (strOfNums pt).size + (strOfNums [b]).size) := by rw [ofn_size, ofn_size]; simp; omega
  have HPB : Hid (strOfNums pt ++ strOfNums [b] = strOfNums (pt ++ [b])) := Lib.hid (ofn_append _ _)
  have HR := Lib.hid (show rngT (bytesOf (strOfNums pt ++ strOfNums [b])) = (lo, hi, n, true) by rw [HPB.out, bytes_ofn (by intro x hx; rcases List.mem_append.1 hx with h9 | h9; exact hpt x h9; rw [List.mem_singleton.1 h9]; exact ⟨hb0, hb1⟩)]; exact hr)
  clear hr
  have hne2 : (((strOfNums pt).size : Int) + ((strOfNums [b]).size : Int) == n) = true := by rw [ofn_size, ofn_size]; simp; omega
  clear hn
  have hwu : IntKind.u32.wrap (pv + lo) = pv + lo := wrap_u32 (by omega) (by omega)
  have HLX := Lib.hid hlx
  clear hlx
  have hE := ofn_empty pt hp
  have HSM := Lib.hid hsm
  clear hsm
  go_enter Try.func43, Try.ntmps43
  go_wp2_with fail
  have HP := Lib.hid hpt
  have HL := Lib.hid hl
  clear hpt hl hp
  generalize strOfNums [b] = B at *
  generalize hPE : strOfNums pt = P at *
  have HE := Lib.hid hPE
  clear hPE
  go_cut [5] (fun p wx => p = .string (P ++ B) ∧ wx = (w.alloc (.cells #[.int .u8 b] 5)).drew)
  case first =>
    go_region_with (fail)
    all_goals (go_wp2_with fail)
    all_goals go_meet
    all_goals exact ⟨rfl, rfl⟩
  case rest =>
    obtain ⟨rfl, rfl⟩ := hcut
    go_wp2_with fail
    generalize (w.alloc (.cells #[.int .u8 b] 5)).drew = W1 at *
    refine (range_any _ _ HR.out).mono ?_
    rintro en w2 ⟨rfl, k, rfl⟩
    clear cA hcv1
    have HD2 : Hid (Dec (W1.drewN k) g T a e f d v xs (own7 pv pt)) := Lib.hid (HDA.out.drewN k)
    have HS2 : Hid (Stp w g v (W1.drewN k) v) := Lib.hid (((Stp.refl w g v).below HBL.out).trans (Stp.mine ((Kp.refl _ _).drewN k)))
    generalize W1.drewN k = W2 at *
    have c52 : W2.cell? ⟨g, 5, none⟩ = some (.int .u32 pv) := HD2.out.co 0
    have c52d : W2.drew.cell? ⟨g, 5, none⟩ = some (.int .u32 pv) := HD2.out.co 0
    have hw1 : IntKind.i64.wrap (pv + lo) = pv + lo := wrap_small (by omega) (by omega)
    have hw2 : IntKind.i64.wrap (pv + hi) = pv + hi := wrap_small (by omega) (by omega)
    have hw3 : IntKind.i64.wrap pv = pv := wrap_small (by omega) (by omega)
    clear c5 c6 f5 f6 HDA HBL HR HLT
    go_wp2_with fail
    go_region_held3 (fun w' => w'.cell? ⟨g, 5, none⟩ = some (.int .u32 pv)) (first | assumption | go_keep) (first
      | (go_at_call 57; refine (some_any (pv + lo) (pv + hi) _).mono ?_; rw [HSM.out]; rintro en w3 ⟨rfl, hb3⟩; have HD3 : Hid (Dec w3 g T a e f d v xs (own7 pv pt)) := Lib.hid (HD2.out.drew.below hb3); have HS3 : Hid (Stp w g v w3 v) := Lib.hid ((HS2.out.trans (Stp.mine ((Kp.refl _ _).drew))).below hb3); have c53 : w3.cell? ⟨g, 5, none⟩ = some (.int .u32 pv) := HD3.out.co 0; clear hb3)
      | (fail))
    have c63 : w3.cell? ⟨g, 6, none⟩ = some (.string P) := HE.out ▸ HD3.out.co 1
    have f63 := HD3.out.fz 6
    go_wp2_with fail
    have HW4 : Hid (Dec (w3.setCell ⟨g, 6, none⟩ (.string (P ++ B))) g T a e f d v xs (own7 pv (pt ++ [b]))) := Lib.hid (by have h9 := HD3.out.set 1 (.string (P ++ B)); rw [HPB.out] at h9 ⊢; exact h9)
    have HS4 : Hid (Stp w g v (w3.setCell ⟨g, 6, none⟩ (.string (P ++ B))) v) := Lib.hid (HS3.out.trans (Stp.mine ((Kp.refl _ _).setg _ _)))
    clear hne2 hE hcat
    refine (dec_hold_one (pv + lo) (show (w3.setCell ⟨g, 6, none⟩ (.string (P ++ B))).heap.size = w3.heap.size by simp [World.setCell]) HLX.out HW4.out).mono ?_
    rintro en w5 ⟨rfl, v5, hd5, hs5⟩
    have HD5 := Lib.hid hd5
    have HS5 := Lib.hid hs5
    have c55 : w5.cell? ⟨g, 5, none⟩ = some (.int .u32 pv) := HD5.out.co 0
    have f55 := HD5.out.fz 5
    have c65 : w5.cell? ⟨g, 6, none⟩ = some (.string (strOfNums (pt ++ [b]))) := HD5.out.co 1
    have f65 := HD5.out.fz 6
    clear hd5 hs5 c53 c63 f63
    go_wp2_with fail
    refine (prev_any (pv + lo) (by omega) hc1 _).mono ?_
    rintro en w6 ⟨rfl, k6, rfl⟩
    have HD6 : Hid (Dec (w5.drewN k6) g T a e f d v5 (xs ++ [pv + lo]) (own7 pv (pt ++ [b]))) := Lib.hid (HD5.out.drewN k6)
    have HS6 : Hid (Stp w g v (w5.drewN k6) v5) := Lib.hid ((HS4.out.trans HS5.out).trans (Stp.mine ((Kp.refl _ _).drewN k6)))
    generalize w5.drewN k6 = w6 at *
    have c56 : w6.cell? ⟨g, 5, none⟩ = some (.int .u32 pv) := HD6.out.co 0
    have f56 := HD6.out.fz 5
    have c66 : w6.cell? ⟨g, 6, none⟩ = some (.string (strOfNums (pt ++ [b]))) := HD6.out.co 1
    have f66 := HD6.out.fz 6
    clear c55 f55 c65 f65
    go_wp2_with fail
    go_ret
    exact ⟨rfl, v5, ((HD6.out.set 0 _).set 1 _), HS6.out.trans (Stp.mine (((Kp.refl _ _).setg _ _).setg _ _))⟩
set_option maxHeartbeats 8000000 in
theorem next_all_e (b : Int) (hb0 : 0 ≤ b) (hb1 : b ≤ 255) (hl : pt.length ≤ 3) (hpt : ∀ x ∈ pt, 0 ≤ x ∧ x ≤ 255) (hp : pt = []) (hne : 33 ≤ b ∧ b ≤ 254) {lo hi n : Int} (hr : rngT (pt ++ [b]) = (lo, hi, n, true)) (hlo : -20000000 ≤ lo ∧ lo ≤ 20000000) (hhi : -20000000 ≤ hi ∧ hi ≤ 20000000) (hpv : 64 ≤ pv ∧ pv ≤ 1114111) (hsm : someF (pv + lo) (pv + hi) = true) (hn : (pt.length : Int) + 1 = n) (hlx : xs.length + 1 ≤ 1073741824) (hc0 : 33 ≤ pv + lo) (hc1 : pv + lo ≤ 1114111) (h : Dec w g T a e f d v xs (own7 pv pt)) :
    Calls Try.prog 43 #[.pointer (some ⟨g, 0, none⟩), .int .u8 b] w fun en w' => en = .returned (.bool true) ∧ ∃ v', Dec w' g T a e f d v' (xs ++ [pv + lo]) (own7 (prevF (pv + lo)) []) ∧ Stp w g v w' v' := by
  have c5 : w.cell? ⟨g, 5, none⟩ = some (.int .u32 pv) := h.co 0
  have c6 : w.cell? ⟨g, 6, none⟩ = some (.string (strOfNums pt)) := h.co 1
  have f5 := h.fz 5
  have f6 := h.fz 6
  have HLT := Lib.hid h.lt
  have HBL : Hid (Below w.heap.size w (w.alloc (.cells #[.int .u8 b] 5)).drew) := Lib.hid (((Kp.refl (fun _ => False) w).alloc _).drew.below (Nat.le_refl _) (fun _ h => h.elim))
  have HDA : Hid (Dec (w.alloc (.cells #[.int .u8 b] 5)).drew g T a e f d v xs (own7 pv pt)) := Lib.hid (h.below HBL.out)
  have cA : (w.alloc (.cells #[.int .u8 b] 5)).drew.cell? ⟨g, 6, none⟩ = some (.string (strOfNums pt)) := HDA.out.co 1
  clear h
  have hcv1 : Sem.run Try.prog (convert 81 9 (.slice (some ⟨w.heap.size, 0, none⟩) 1 1)) (w.alloc (.cells #[.int .u8 b] 5)).drew = .ok (.string (strOfNums [b])) (w.alloc (.cells #[.int .u8 b] 5)).drew := conv1 w.drew b
  have hcat : ¬ (9223372036854775807 < (strOfNums pt).size + (strOfNums [b]).size) := by rw [ofn_size, ofn_size]; simp; omega
  have HPB : Hid (strOfNums pt ++ strOfNums [b] = strOfNums (pt ++ [b])) := Lib.hid (ofn_append _ _)
  have HR := Lib.hid (show rngT (bytesOf (strOfNums pt ++ strOfNums [b])) = (lo, hi, n, true) by rw [HPB.out, bytes_ofn (by intro x hx; rcases List.mem_append.1 hx with h9 | h9; exact hpt x h9; rw [List.mem_singleton.1 h9]; exact ⟨hb0, hb1⟩)]; exact hr)
  clear hr
  have hne2 : (((strOfNums pt).size : Int) + ((strOfNums [b]).size : Int) == n) = true := by rw [ofn_size, ofn_size]; simp; omega
  clear hn
  have hwu : IntKind.u32.wrap (pv + lo) = pv + lo := wrap_u32 (by omega) (by omega)
  have HLX := Lib.hid hlx
  clear hlx
  have hE : (strOfNums pt).toList.isEmpty = true := by rw [hp]; rw [D.ofNums_toList]; rfl
  have e1 : (b == 255) = false := by simp; omega
  have e2 : decide (b ≤ 32) = false := by simp; omega
  clear hp hne
  have HSM := Lib.hid hsm
  clear hsm
  go_enter Try.func43, Try.ntmps43
  go_wp2_with fail
  have HP := Lib.hid hpt
  have HL := Lib.hid hl
  clear hpt hl
  generalize strOfNums [b] = B at *
  generalize hPE : strOfNums pt = P at *
  have HE := Lib.hid hPE
  clear hPE
  go_cut [5] (fun p wx => p = .string (P ++ B) ∧ wx = (w.alloc (.cells #[.int .u8 b] 5)).drew)
  case first =>
    go_region_with (fail)
    all_goals (go_wp2_with fail)
    all_goals go_meet
    all_goals exact ⟨rfl, rfl⟩
  case rest =>
    obtain ⟨rfl, rfl⟩ := hcut
    go_wp2_with fail
    generalize (w.alloc (.cells #[.int .u8 b] 5)).drew = W1 at *
    refine (range_any _ _ HR.out).mono ?_
    rintro en w2 ⟨rfl, k, rfl⟩
    clear cA hcv1
    have HD2 : Hid (Dec (W1.drewN k) g T a e f d v xs (own7 pv pt)) := Lib.hid (HDA.out.drewN k)
    have HS2 : Hid (Stp w g v (W1.drewN k) v) := Lib.hid (((Stp.refl w g v).below HBL.out).trans (Stp.mine ((Kp.refl _ _).drewN k)))
    generalize W1.drewN k = W2 at *
    have c52 : W2.cell? ⟨g, 5, none⟩ = some (.int .u32 pv) := HD2.out.co 0
    have c52d : W2.drew.cell? ⟨g, 5, none⟩ = some (.int .u32 pv) := HD2.out.co 0
    have hw1 : IntKind.i64.wrap (pv + lo) = pv + lo := wrap_small (by omega) (by omega)
    have hw2 : IntKind.i64.wrap (pv + hi) = pv + hi := wrap_small (by omega) (by omega)
    have hw3 : IntKind.i64.wrap pv = pv := wrap_small (by omega) (by omega)
    clear c5 c6 f5 f6 HDA HBL HR HLT
    go_wp2_with fail
    go_region_held3 (fun w' => w'.cell? ⟨g, 5, none⟩ = some (.int .u32 pv)) (first | assumption | go_keep) (first
      | (go_at_call 57; refine (some_any (pv + lo) (pv + hi) _).mono ?_; rw [HSM.out]; rintro en w3 ⟨rfl, hb3⟩; have HD3 : Hid (Dec w3 g T a e f d v xs (own7 pv pt)) := Lib.hid (HD2.out.drew.below hb3); have HS3 : Hid (Stp w g v w3 v) := Lib.hid ((HS2.out.trans (Stp.mine ((Kp.refl _ _).drew))).below hb3); have c53 : w3.cell? ⟨g, 5, none⟩ = some (.int .u32 pv) := HD3.out.co 0; clear hb3)
      | (fail))
    have c63 : w3.cell? ⟨g, 6, none⟩ = some (.string P) := HE.out ▸ HD3.out.co 1
    have f63 := HD3.out.fz 6
    go_wp2_with fail
    have HW4 : Hid (Dec (w3.setCell ⟨g, 6, none⟩ (.string (P ++ B))) g T a e f d v xs (own7 pv (pt ++ [b]))) := Lib.hid (by have h9 := HD3.out.set 1 (.string (P ++ B)); rw [HPB.out] at h9 ⊢; exact h9)
    have HS4 : Hid (Stp w g v (w3.setCell ⟨g, 6, none⟩ (.string (P ++ B))) v) := Lib.hid (HS3.out.trans (Stp.mine ((Kp.refl _ _).setg _ _)))
    clear hne2 hE hcat
    refine (dec_hold_one (pv + lo) (show (w3.setCell ⟨g, 6, none⟩ (.string (P ++ B))).heap.size = w3.heap.size by simp [World.setCell]) HLX.out HW4.out).mono ?_
    rintro en w5 ⟨rfl, v5, hd5, hs5⟩
    have HD5 := Lib.hid hd5
    have HS5 := Lib.hid hs5
    have c55 : w5.cell? ⟨g, 5, none⟩ = some (.int .u32 pv) := HD5.out.co 0
    have f55 := HD5.out.fz 5
    have c65 : w5.cell? ⟨g, 6, none⟩ = some (.string (strOfNums (pt ++ [b]))) := HD5.out.co 1
    have f65 := HD5.out.fz 6
    clear hd5 hs5 c53 c63 f63
    go_wp2_with fail
    refine (prev_any (pv + lo) (by omega) hc1 _).mono ?_
    rintro en w6 ⟨rfl, k6, rfl⟩
    have HD6 : Hid (Dec (w5.drewN k6) g T a e f d v5 (xs ++ [pv + lo]) (own7 pv (pt ++ [b]))) := Lib.hid (HD5.out.drewN k6)
    have HS6 : Hid (Stp w g v (w5.drewN k6) v5) := Lib.hid ((HS4.out.trans HS5.out).trans (Stp.mine ((Kp.refl _ _).drewN k6)))
    generalize w5.drewN k6 = w6 at *
    have c56 : w6.cell? ⟨g, 5, none⟩ = some (.int .u32 pv) := HD6.out.co 0
    have f56 := HD6.out.fz 5
    have c66 : w6.cell? ⟨g, 6, none⟩ = some (.string (strOfNums (pt ++ [b]))) := HD6.out.co 1
    have f66 := HD6.out.fz 6
    clear c55 f55 c65 f65
    go_wp2_with fail
    go_ret
    exact ⟨rfl, v5, ((HD6.out.set 0 _).set 1 _), HS6.out.trans (Stp.mine (((Kp.refl _ _).setg _ _).setg _ _))⟩
theorem next_no (b : Int) (hb0 : 0 ≤ b) (hb1 : b ≤ 255) (hl : pt.length ≤ 3) (hpt : ∀ x ∈ pt, 0 ≤ x ∧ x ≤ 255) (h0 : ¬ (pt = [] ∧ b = 255)) (h1 : ¬ (pt = [] ∧ b ≤ 32)) (hr : rngF (pt ++ [b]) = none) (h : Dec w g T a e f d v xs (own7 pv pt)) :
    Calls Try.prog 43 #[.pointer (some ⟨g, 0, none⟩), .int .u8 b] w fun en w' => en = .returned (.bool false) ∧ Dec w' g T a e f d v xs (own7 pv pt) ∧ Stp w g v w' v := by
  have hr2 : rngT (pt ++ [b]) = (0, 0, 0, false) := by unfold rngT; rw [hr]
  by_cases hp : pt = []
  · exact next_rno_e b hb0 hb1 hl hpt hp ⟨by have : ¬ b ≤ 32 := fun h => h1 ⟨hp, h⟩; omega, by have : ¬ b = 255 := fun h => h0 ⟨hp, h⟩; omega⟩ hr2 h
  · exact next_rno_n b hb0 hb1 hl hpt hp hr2 h
theorem next_none (s : CS) (b : Int) (hs : cok s) (hb0 : 0 ≤ b) (hb1 : b ≤ 255) (hl : xs.length + 1 ≤ 1073741824) (hn : cnx s b = none) (h : Dec w g T a e f d v xs (cown s)) :
    Calls Try.prog 43 #[.pointer (some ⟨g, 0, none⟩), .int .u8 b] w fun en w' => en = .returned (.bool false) ∧ ∃ s' v', Dec w' g T a e f d v' xs (cown s') ∧ Stp w g v w' v' := by
  have hlen := cok_len hs
  obtain ⟨pv, pt⟩ := s
  obtain ⟨h1, h2, h3⟩ := hs
  simp only at h1 h2 h3 hlen
  unfold cnx at hn
  simp only at hn
  have hx : ∀ x ∈ pt ++ [b], 0 ≤ x ∧ x ≤ 255 := by
    intro x hx
    rcases List.mem_append.1 hx with h9 | h9
    · exact h3 x h9
    · rw [List.mem_singleton.1 h9]; omega
  have fin : ∀ {en : Ending} {w' : World}, (en = .returned (.bool false) ∧ Dec w' g T a e f d v xs (own7 pv pt) ∧ Stp w g v w' v) → en = .returned (.bool false) ∧ ∃ s' v', Dec w' g T a e f d v' xs (cown s') ∧ Stp w g v w' v' := fun ⟨he, hd, hst⟩ => ⟨he, ⟨pv, pt⟩, _, hd, hst⟩
  split at hn
  · cases hn
  · rename_i k0
    split at hn
    · cases hn
    · rename_i k1
      rw [if_neg (by omega)] at hn
      cases hr : rngF (pt ++ [b]) with
      | none => exact (next_no b hb0 hb1 hlen h3 k0 k1 hr h).mono fun en w' h9 => fin h9
      | some p =>
        obtain ⟨lo, hi, n⟩ := p
        rw [hr] at hn
        simp only at hn
        have hrr := rngF_range hx hr
        have hr2 : rngT (pt ++ [b]) = (lo, hi, n, true) := by unfold rngT; rw [hr]
        by_cases hsm : someF (pv + lo) (pv + hi) = true
        · rw [if_pos hsm] at hn
          split at hn <;> cases hn
        · have hsm2 : someF (pv + lo) (pv + hi) = false := by simpa using hsm
          by_cases hp : pt = []
          · exact (next_sno_e b hb0 hb1 hlen h3 hp ⟨by have : ¬ b ≤ 32 := fun h => k1 ⟨hp, h⟩; omega, by have : ¬ b = 255 := fun h => k0 ⟨hp, h⟩; omega⟩ hr2 hrr.1 hrr.2.1 h1 hsm2 h).mono fun en w' h9 => fin h9
          · exact (next_sno_n b hb0 hb1 hlen h3 hp hr2 hrr.1 hrr.2.1 h1 hsm2 h).mono fun en w' h9 => fin h9
theorem next_some (s s' : CS) (r : Option Int) (b : Int) (hs : cok s) (hb0 : 0 ≤ b) (hb1 : b ≤ 255) (hl : xs.length + 1 ≤ 1073741824) (hn : cnx s b = some (s', r)) (h : Dec w g T a e f d v xs (cown s)) :
    Calls Try.prog 43 #[.pointer (some ⟨g, 0, none⟩), .int .u8 b] w fun en w' => en = .returned (.bool true) ∧ ∃ v', Dec w' g T a e f d v' (xs ++ r.toList) (cown s') ∧ Stp w g v w' v' := by
  have hlen := cok_len hs
  obtain ⟨pv, pt⟩ := s
  obtain ⟨h1, h2, h3⟩ := hs
  simp only at h1 h2 h3 hlen
  unfold cnx at hn
  simp only at hn
  have hx : ∀ x ∈ pt ++ [b], 0 ≤ x ∧ x ≤ 255 := by
    intro x hx
    rcases List.mem_append.1 hx with h9 | h9
    · exact h3 x h9
    · rw [List.mem_singleton.1 h9]; omega
  split at hn
  · rename_i k0
    obtain ⟨rfl, rfl⟩ := k0
    simp only [Option.some.injEq, Prod.mk.injEq] at hn
    obtain ⟨rfl, rfl⟩ := hn
    simp only [Option.toList, List.append_nil]
    exact (next_reset h).mono fun en w' ⟨he, hd, hst⟩ => ⟨he, _, hd, hst⟩
  · rename_i k0
    split at hn
    · rename_i k1
      obtain ⟨rfl, k2⟩ := k1
      simp only [Option.some.injEq, Prod.mk.injEq] at hn
      obtain ⟨rfl, rfl⟩ := hn
      exact next_ctl b hb0 k2 hl h
    · rename_i k1
      rw [if_neg (by omega)] at hn
      cases hr : rngF (pt ++ [b]) with
      | none => rw [hr] at hn; cases hn
      | some p =>
        obtain ⟨lo, hi, n⟩ := p
        rw [hr] at hn
        simp only at hn
        have hrr := rngF_range hx hr
        rw [List.length_append, List.length_singleton] at hrr
        have hr2 : rngT (pt ++ [b]) = (lo, hi, n, true) := by unfold rngT; rw [hr]
        by_cases hsm : someF (pv + lo) (pv + hi) = true
        · rw [if_pos hsm] at hn
          have hpe : pt = [] → 33 ≤ b ∧ b ≤ 254 := fun hp => ⟨by have : ¬ b ≤ 32 := fun h => k1 ⟨hp, h⟩; omega, by have : ¬ b = 255 := fun h => k0 ⟨hp, h⟩; omega⟩
          by_cases hnn : (pt.length : Int) + 1 = n
          · rw [if_pos hnn] at hn
            simp only [Option.some.injEq, Prod.mk.injEq] at hn
            obtain ⟨rfl, rfl⟩ := hn
            have heq := hrr.2.2.2.2.2.1 (by omega)
            subst heq
            have hc := some_one hsm
            by_cases hp : pt = []
            · exact next_all_e b hb0 hb1 hlen h3 hp (hpe hp) hr2 hrr.1 hrr.2.1 h1 hsm hnn hl hc.1 hc.2.1 h
            · exact next_all_n b hb0 hb1 hlen h3 hp hr2 hrr.1 hrr.2.1 h1 hsm hnn hl hc.1 hc.2.1 h
          · rw [if_neg hnn] at hn
            simp only [Option.some.injEq, Prod.mk.injEq] at hn
            obtain ⟨rfl, rfl⟩ := hn
            simp only [Option.toList, List.append_nil]
            by_cases hp : pt = []
            · exact (next_more_e b hb0 hb1 hlen h3 hp (hpe hp) hr2 hrr.1 hrr.2.1 h1 hsm hnn h).mono fun en w' ⟨he, hd, hst⟩ => ⟨he, _, hd, hst⟩
            · exact (next_more_n b hb0 hb1 hlen h3 hp hr2 hrr.1 hrr.2.1 h1 hsm hnn h).mono fun en w' ⟨he, hd, hst⟩ => ⟨he, _, hd, hst⟩
        · rw [if_neg hsm] at hn; cases hn
end
end Go.Proofs.Ythodifmfamflpaa
