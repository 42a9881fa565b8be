/- The encoder's Feed, over what one scalar's bytes are. -/
import Derived.Test.YthodifmfamflpaaEa
import Derived.Test.YthodifmfamflpaaRun
import Derived.LoopTactic
import Derived.Deep.RegionHeld3
namespace Go.Proofs.Ythodifmfamflpaa
open Go.RowKit Go.Proofs.YthodifmfamflpaaW.PrintWords Go.Proofs.YthodifmfamflpaaW.PrintMore
set_option linter.unusedVariables false
set_option linter.unusedSimpArgs false
/-- All that scalars become, and the state behind them. -/
def erun : ES → List Int → List Int × ES
  | s, [] => ([], s)
  | s, c :: r => ((eby s c).1 ++ (erun (eby s c).2 r).1, (erun (eby s c).2 r).2)
theorem erun_append : ∀ (l : List Int) (s : ES) (m : List Int), erun s (l ++ m) = ((erun s l).1 ++ (erun (erun s l).2 m).1, (erun (erun s l).2 m).2)
  | [], s, m => rfl
  | x :: l, s, m => by simp [erun, erun_append l, List.append_assoc]
theorem erun_snoc (l : List Int) (s : ES) (c : Int) : erun s (l ++ [c]) = ((erun s l).1 ++ (eby (erun s l).2 c).1, (eby (erun s l).2 c).2) := by
  rw [erun_append]; simp [erun]
theorem bytesOf_append (x y : ByteArray) : bytesOf (x ++ y) = bytesOf x ++ bytesOf y := by simp [bytesOf, ByteArray.data_append]
theorem bytesOf_ofNums {xs : List Int} (h : ∀ x ∈ xs, 0 ≤ x ∧ x ≤ 255) : bytesOf (strOfNums xs) = xs := by
  unfold bytesOf strOfNums
  simp only [List.map_map]
  refine (List.map_congr_left (g := id) ?_).trans (List.map_id xs)
  intro x hx
  have := h x hx
  simp only [Function.comp_apply, id, UInt8.toNat_ofNat']
  omega
theorem Given.bytes {s x y : ByteArray} {room : Int} (h : Given s room x y) : bytesOf x = (bytesOf s).take room.toNat ∧ bytesOf y = (bytesOf s).drop room.toNat := by
  constructor
  · rw [bytesOf, h.1, bytesOf, List.map_take]
  · rw [bytesOf, h.2, bytesOf, List.map_drop]
theorem Given.le {s x y : ByteArray} {room : Int} (h : Given s room x y) : x.size ≤ room.toNat := by
  have := congrArg List.length h.bytes.1
  rw [List.length_take, bytesOf_length] at this
  omega
section
variable {w : World} {g T : Nat} {a e f : Int} {d : Bool} {s : ByteArray}
/-- What holds at a round's head of Feed: k scalars were eaten, x was told, y waits. -/
structure EFeedAt (w : World) (g T : Nat) (a : Int) (p : List Int) (s0 : ES) (ls : List Int) (room : Int) (k : Nat) (x y : ByteArray) (wr : World) : Prop where
  le : k ≤ ls.length
  sc : ∀ c ∈ ls.take k, isB c = true
  by_ : bytesOf x ++ bytesOf y = p ++ (erun s0 (ls.take k)).1
  enc : Enc wr g T (a + k) 0 0 false y (eown (erun s0 (ls.take k)).2)
  kp : Kp (fun k => k = g) w wr
  rm : x.size ≤ room.toNat
  full : y.size ≠ 0 → x.size = room.toNat
  few : y.size ≤ max p.length 5
  ok : eok (erun s0 (ls.take k)).2
  got : k = 0 ∨ p.length ≤ room.toNat
/-- What Feed hands back: how many scalars were eaten, which bytes are told; it goes on, or the next one is no scalar. -/
def EFeedPost (w : World) (g T : Nat) (a : Int) (p : List Int) (s0 : ES) (ls : List Int) (room : Int) (en : Ending) (w' : World) : Prop :=
  ∃ (m : Nat) (x y : ByteArray), en = .returned (.tuple #[.int .i64 m, .string x]) ∧ m ≤ ls.length ∧ (∀ c ∈ ls.take m, isB c = true) ∧ bytesOf x ++ bytesOf y = p ++ (erun s0 (ls.take m)).1 ∧ Kp (fun k => k = g) w w' ∧ x.size ≤ room.toNat ∧ (y.size ≠ 0 → x.size = room.toNat) ∧ y.size ≤ max p.length 5 ∧ eok (erun s0 (ls.take m)).2 ∧
    ((Enc w' g T (a + m) 0 0 false y (eown (erun s0 (ls.take m)).2) ∧ (m = ls.length ∨ y.size ≠ 0)) ∨
     (m < ls.length ∧ isB (ls.getD m 0) = false ∧ y.size = 0 ∧ Enc w' g T (a + m) 2 (a + m) false y (eown (erun s0 (ls.take m)).2)))
theorem take_snoc {ls : List Int} {k : Nat} (h : k < ls.length) : ls.take (k + 1) = ls.take k ++ [ls.getD k 0] := by
  rw [List.take_succ_eq_append_getElem h, List.getD_eq_getElem?_getD, List.getElem?_eq_getElem h]; rfl
theorem efeed_start {p : List Int} {s0 : ES} {ls : List Int} {room : Int} {kept x y : ByteArray} {w1 : World} (hp : bytesOf kept = p) (hs : eok s0) (hg : Given kept room x y) (h : Enc w1 g T a 0 0 false y (eown s0)) (hk : Kp (fun k => k = g) w w1) : EFeedAt w g T a p s0 ls room 0 x y w1 := by
  obtain ⟨h1, h2⟩ := hg.bytes
  have hx := congrArg List.length h1
  have hy := congrArg List.length h2
  rw [List.length_take, bytesOf_length] at hx
  rw [List.length_drop, bytesOf_length] at hy
  refine ⟨Nat.zero_le _, by simp, ?_, by simpa [erun] using h, hk, by omega, fun h0 => by omega, by rw [← hp]; omega, by simpa [erun] using hs, .inl rfl⟩
  rw [h1, h2, List.take_append_drop, hp]; simp [erun]
theorem efeed_on {p : List Int} {s0 : ES} {ls : List Int} {room : Int} {k : Nat} {x y x2 y2 b : ByteArray} {wr w2 : World} (h : EFeedAt w g T a p s0 ls room k x y wr) (hk : k < ls.length) (hc0 : 0 ≤ ls.getD k 0) (hc : isB (ls.getD k 0) = true) (hy : y.size = 0)
    (hb : b = strOfNums (eby (erun s0 (ls.take k)).2 (ls.getD k 0)).1) (hg : Given (y ++ b) (room - x.size) x2 y2) (he : Enc w2 g T (a + k + 1) 0 0 false y2 (eown (eby (erun s0 (ls.take k)).2 (ls.getD k 0)).2)) (hkp : Kp (fun k => k = g) wr w2) :
    EFeedAt w g T a p s0 ls room (k + 1) (x ++ x2) y2 w2 := by
  subst hb
  obtain ⟨h1, h2⟩ := hg.bytes
  have hbb := bytesOf_ofNums (eby_bytes _ _ h.ok hc0 hc)
  have hy0 : bytesOf y = [] := List.eq_nil_of_length_eq_zero (by rw [bytesOf_length]; exact hy)
  rw [bytesOf_append, hy0, List.nil_append, hbb] at h1 h2
  have hx2 := congrArg List.length h1
  have hy2 := congrArg List.length h2
  have hl := eby_len (erun s0 (ls.take k)).2 (ls.getD k 0)
  rw [List.length_take, bytesOf_length] at hx2
  rw [List.length_drop, bytesOf_length] at hy2
  have hr := h.rm
  have hby := h.by_
  rw [hy0, List.append_nil] at hby
  have hxl := congrArg List.length hby
  rw [bytesOf_length, List.length_append] at hxl
  have hsz : (x ++ x2).size = x.size + x2.size := ByteArray.size_append
  refine ⟨hk, ?_, ?_, ?_, h.kp.tr hkp, by omega, fun h0 => by omega, by omega, ?_, .inr (by omega)⟩
  · rw [take_snoc hk]
    intro c hm
    rcases List.mem_append.1 hm with h9 | h9
    · exact h.sc c h9
    · rw [List.mem_singleton.1 h9]; exact hc
  · rw [take_snoc hk, erun_snoc, bytesOf_append, List.append_assoc, h1, h2, List.take_append_drop, hby, List.append_assoc]
  · rw [take_snoc hk, erun_snoc, show a + ((k + 1 : Nat) : Int) = a + k + 1 by omega]
    exact he
  · rw [take_snoc hk, erun_snoc]
    exact eby_ok h.ok hc0 hc
theorem efeed_end {p : List Int} {s0 : ES} {ls : List Int} {room : Int} {k : Nat} {x y : ByteArray} {wr : World} (h : EFeedAt w g T a p s0 ls room k x y wr) (hx : k = ls.length ∨ y.size ≠ 0) : EFeedPost w g T a p s0 ls room (.returned (.tuple #[.int .i64 k, .string x])) wr :=
  ⟨k, x, y, rfl, h.le, h.sc, h.by_, h.kp, h.rm, h.full, h.few, h.ok, .inl ⟨h.enc, hx⟩⟩
theorem efeed_wrong {p : List Int} {s0 : ES} {ls : List Int} {room : Int} {k : Nat} {x y : ByteArray} {wr w2 : World} (h : EFeedAt w g T a p s0 ls room k x y wr) (hk : k < ls.length) (hn : isB (ls.getD k 0) = false) (hy : y.size = 0) (he : Enc w2 g T (a + k) 2 (a + k) false y (eown (erun s0 (ls.take k)).2)) (hkp : Kp (fun k => k = g) wr w2) :
    EFeedPost w g T a p s0 ls room (.returned (.tuple #[.int .i64 k, .string x])) w2 :=
  ⟨k, x, y, rfl, h.le, h.sc, h.by_, h.kp.tr hkp, h.rm, h.full, h.few, h.ok, .inr ⟨hk, hn, hy, he⟩⟩
theorem efeed_any (A : Option Addr) (n c : Nat) (ls : List Int) (room : Int) (s0 : ES) (p : List Int) (kept : ByteArray) (hp : bytesOf kept = p) (hpl : p.length ≤ 100) (hs : eok s0) (hr : ReadsInt w .u32 A n ls) (hrg : ∀ ad, A = some ad → ad.block ≠ g) (hwf : ∀ k, 0 ≤ ls.getD k 0 ∧ ls.getD k 0 ≤ 4294967295) (hn : n ≤ 1000000) (ha0 : 0 ≤ a) (ha1 : a ≤ 1000000000) (hr1 : room ≤ 1000000000) (hr0 : -1000000000 ≤ room) (h : Enc w g T a 0 0 false kept (eown s0)) :
    Calls Try.prog 32 #[.pointer (some ⟨g, 0, none⟩), .slice A n c, .int .i64 room] w (EFeedPost w g T a p s0 ls room) := by
  have HD := Lib.hid h
  have HLN := Lib.hid hr.1
  have HR := Lib.hid hr
  have HRG := Lib.hid hrg
  have HWF := Lib.hid hwf
  have HPP := Lib.hid hp
  have HSS := Lib.hid hs
  have HLB : Hid (∀ (q : ES) (y : ByteArray) (cc : Int), y.size = 0 → eok q → 0 ≤ cc → isB cc = true → y.size + (strOfNums (eby q cc).1).size ≤ 1073741824 ∧ (y ++ strOfNums (eby q cc).1).size ≤ 1073741824) := by
    intro q y cc hy hq h0 hb
    have hl := eby_len q cc
    have hz : (strOfNums (eby q cc).1).size = (eby q cc).1.length := by simp [strOfNums, ByteArray.size]
    have hsz : (y ++ strOfNums (eby q cc).1).size = y.size + (strOfNums (eby q cc).1).size := ByteArray.size_append
    omega
  clear h hr hrg hwf hp hs
  go_enter Try.func32, Try.ntmps32
  go_wp2_with (first | (go_at_call 47; go_must (refine (enc_give room (by rw [← bytesOf_length, HPP.out]; omega) HD.out).mono ?_); rintro e w1 ⟨x, y, rfl, he1, hk1, hg1⟩; have HF := Lib.hid (efeed_start (ls := ls) HPP.out HSS.out hg1 he1 hk1); clear he1 hk1 hg1))
  go_loopw [8, 9] (fun o q wr => ∃ (k : Nat) (x y : ByteArray), q = .int .i64 k ∧ o = .string x ∧ EFeedAt w g T a p s0 ls room k x y wr) (fun _ q _ => n - (intOf q).toNat)
  case atStart => exact ⟨0, _, _, rfl, rfl, HF.out⟩
  case round =>
    clear HF
    obtain ⟨k, x, y, rfl, rfl, hk⟩ := hrel
    have hle := hk.le
    have hrm := hk.rm
    have hfew := hk.few
    have hkn : k ≤ n := by have := HLN.out; omega
    have HE := Lib.hid hk.enc
    have HK := Lib.hid hk
    clear hk
    by_cases hlt : k < n
    · by_cases hy : y.size = 0
      · have hyb : ((y.size : Int) == 0) = true := by simp [hy]
        have hr1 := reads_kp HR.out HK.out.kp HRG.out
        obtain ⟨ad, rfl, hc⟩ := hr1.at_ (k : Int) (by omega) (by omega)
        rw [Int.toNat_natCast, show rd ls (k : Int) = ls.getD k 0 from rfl] at hc
        have hw := HWF.out k
        have HY := Lib.hid hy
        have HLT := Lib.hid (show k < ls.length by have := HLN.out; omega)
        generalize hgc : ls.getD k 0 = cc at *
        have HGC := Lib.hid hgc
        clear hgc hy hr1
        cases hb : isB cc with
        | false =>
          have HB := Lib.hid hb
          clear hb
          go_wp2_with (first | (go_at_call 27; go_must (refine (enc_kept HE.out).mono ?_); rintro e w' ⟨rfl, rfl⟩) | (go_at_call 42; go_must (refine (going_yes HE.out).mono ?_); rintro e w' ⟨rfl, rfl⟩) | (go_at_call 48; go_must (refine (is_any cc _).mono ?_); rw [HB.out]; rintro e w' ⟨rfl, rfl⟩) | (go_at_call 44; go_must (refine (stop_yes 2 rfl HE.out).mono ?_); rintro e w2 ⟨rfl, he2, hk2⟩; have HE2 := Lib.hid he2; have HK2 := Lib.hid hk2; clear he2 hk2))
          go_ret2
          exact efeed_wrong HK.out HLT.out (by rw [HGC.out]; exact HB.out) HY.out HE2.out HK2.out
        | true =>
          have HB := Lib.hid hb
          clear hb
          go_wp2_with (first | (go_at_call 27; go_must (refine (enc_kept HE.out).mono ?_); rintro e w' ⟨rfl, rfl⟩) | (go_at_call 42; go_must (refine (going_yes HE.out).mono ?_); rintro e w' ⟨rfl, rfl⟩) | (go_at_call 48; go_must (refine (is_any cc _).mono ?_); rw [HB.out]; rintro e w' ⟨rfl, rfl⟩))
          have hw0 := HWF.out k
          have hadg : (ad.add k).block ≠ g := by rw [add_block]; exact HRG.out ad rfl
          have HADG := Lib.hid hadg
          have HADL := Lib.hid (World.block_lt_of_cell? wr _ hc)
          clear hadg
          go_region_held3 (fun w' => w'.cell? (ad.add k) = some (.int .u32 cc)) (first | assumption | go_keep) (first | (go_at_call 50; refine (ebytes_any (w := wr.drew) (erun s0 (ls.take k)).2 cc HK.out.ok (by omega) HB.out HE.out).mono ?_; rintro e w3 ⟨rfl, he3, hk3⟩; have HE3 := Lib.hid he3; have HK3 := Lib.hid hk3; have hc3 : w3.cell? (ad.add k) = some (.int .u32 cc) := (World.cell?_of_block (w := wr) (hk3.block _ HADL.out HADG.out)).trans hc; clear he3 hk3) | (go_at_call 49; refine (enc_keep (HLB.out _ y cc HY.out HK.out.ok (by omega) HB.out).1 HE3.out).mono ?_; rintro e w4 ⟨rfl, he4, hk4⟩; have HE4 := Lib.hid he4; have HK4 := Lib.hid hk4; have hc4 : w4.cell? (ad.add k) = some (.int .u32 cc) := (World.cell?_of_block (w := w3) (hk4.block _ (Nat.lt_of_lt_of_le HADL.out HK3.out.size) HADG.out)).trans hc3; clear he4 hk4))
          go_wp2_with (first | (go_at_call 45; go_must (refine (eat_pos 1 (by omega) (by omega) (by omega) (by omega) HE4.out).mono ?_); rintro e w5 ⟨rfl, he5, hk5⟩; have HE5 := Lib.hid he5; have HK5 := Lib.hid hk5; clear he5 hk5) | (go_at_call 47; go_must (refine (enc_give _ (HLB.out _ y cc HY.out HK.out.ok (by omega) HB.out).2 HE5.out).mono ?_); rintro e w6 ⟨x6, y6, rfl, he6, hk6, hg6⟩; have HE6 := Lib.hid he6; have HK6 := Lib.hid hk6; have HG6 := Lib.hid hg6; have hx6 := hg6.le; clear he6 hk6 hg6))
          go_roundw
          case rel => exact ⟨k + 1, _, _, rfl, rfl, efeed_on HK.out HLT.out (by rw [HGC.out]; omega) (by rw [HGC.out]; exact HB.out) HY.out (by rw [HGC.out]) HG6.out (by rw [HGC.out]; exact HE6.out) (((((Kp.refl _ _).drew.tr HK3.out).tr HK4.out).tr HK5.out).tr HK6.out)⟩
          case measure => simp [intOf]; omega
      · have HY : Hid (y.size ≠ 0) := hy
        have hyb : ((y.size : Int) == 0) = false := by simp [hy]
        clear hy
        go_wp2_with (first | (go_at_call 27; go_must (refine (enc_kept HE.out).mono ?_); rintro e w' ⟨rfl, rfl⟩))
        go_ret2
        exact efeed_end HK.out (.inr HY.out)
    · have HX := Lib.hid (show k = ls.length from by have := HLN.out; omega)
      go_wp2_with (first | (go_at_call 27; go_must (refine (enc_kept HE.out).mono ?_); rintro e w' ⟨rfl, rfl⟩))
      go_ret2
      exact efeed_end HK.out (.inl HX.out)
end
end Go.Proofs.Ythodifmfamflpaa
