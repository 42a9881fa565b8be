/- The law's read: what a decoder tells of a text that comes in parts. -/
import Derived.Test.YthodifmfamflpaaCe
import Derived.Deep.DeepCutAuto
import Derived.Deep.CutBlock
namespace Go.Proofs.Ythodifmfamflpaa
open Go.RowKit Go.Proofs.YthodifmfamflpaaW.PrintWords Go.Proofs.YthodifmfamflpaaW.PrintMore
set_option linter.unusedVariables false
set_option linter.unusedSimpArgs false
section
variable {w : World} {g T : Nat} {a e f : Int} {d : Bool} {v : Value} {xs : List Int}
theorem fld0 (x y : Int) (W : World) : Sem.run Try.prog (Instr.field 45 (.agg #[.int .i64 x, .int .i64 y]) 0) W = .ok (.int .i64 x) W := by kernel_rfl
theorem Dec.nilmove {own : List Value} (h : Dec w g T a e f d nilv [] own) {w' : World} (hb : w'.heap[g]? = w.heap[g]?) : Dec w' g T a e f d nilv [] own :=
  ⟨hb.trans h.bs, q_none w' _, fun h => by cases h⟩
theorem min_range (p n : Int) (hn : 0 ≤ n) : 0 ≤ (if n < (if p < 0 then 0 else p) then n else (if p < 0 then 0 else p)) ∧ (if n < (if p < 0 then 0 else p) then n else (if p < 0 then 0 else p)) ≤ n := by
  (repeat' split) <;> omega
/-- What holds at a round's head of read: j bytes were eaten. -/
structure ReadAt (w : World) (g T : Nat) (t : ByteArray) (s0 : CS) (M j i : Nat) (u : ByteArray) (os : List Int) (o : Value) (s : CS) (wr : World) : Prop where
  u : bytesOf u = (bytesOf t).drop j
  le : j ≤ t.size
  run : run cnx s0 ((bytesOf t).take j) = some (s, os)
  ok : cok s
  dec : Dec wr g T j 0 0 false nilv [] (cown s)
  own : wr.ownsRow w.heap.size 34 1 o os.length (nums .u32 os)
  kp : Kp (fun k => k = g) w wr
  few : os.length ≤ j
  cnt : i ≤ M + j
theorem ReadAt.size {w wr : World} {t u : ByteArray} {s0 s : CS} {M j i : Nat} {os : List Int} {o : Value} (h : ReadAt w g T t s0 M j i u os o s wr) : u.size = t.size - j := by
  have := congrArg List.length h.u
  rw [List.length_drop, bytesOf_length, bytesOf_length] at this
  exact this
/-- What read hands back. -/
def ReadPost (w : World) (g T : Nat) (t : ByteArray) (s0 : CS) (en : Ending) (w' : World) : Prop :=
  ∃ (m : Nat) (os : List Int) (r : Value) (s : CS), en = .returned (.tuple #[r, .bool true]) ∧ m ≤ t.size ∧ run cnx s0 ((bytesOf t).take m) = some (s, os) ∧ w'.ownsRow w.heap.size 34 1 r os.length (nums .u32 os) ∧ Kp (fun k => k = g) w w' ∧ os.length ≤ m ∧ cok s ∧
    ((m = t.size ∧ ccut s = false ∧ Dec w' g T m 0 0 true nilv [] (cown s)) ∨ (m = t.size ∧ ccut s = true ∧ Dec w' g T m 4 m false nilv [] (cown s)) ∨
     (m < t.size ∧ cnx s (bt t m) = none ∧ ∃ s', Dec w' g T m 3 m false nilv [] (cown s')))
theorem reads_kp0 {w w' : World} {F : Nat → Prop} {k : IntKind} {A : Option Addr} {n : Nat} {xs : List Int} (h : ReadsInt w k A n xs) (hk : Kp F w w') (hn : ∀ ad, A = some ad → 0 < n → ¬ F ad.block) : ReadsInt w' k A n xs := by
  rcases Nat.eq_zero_or_pos n with h0 | h0
  · exact ⟨h.1, h.2.1, fun h1 => by omega⟩
  · exact reads_kp h hk (fun ad had => hn ad had h0)
theorem reads_lt {w : World} {k : IntKind} {A : Option Addr} {n : Nat} {xs : List Int} (h : ReadsInt w k A n xs) : ∀ ad, A = some ad → 0 < n → ad.block < w.heap.size := by
  intro ad had h0
  obtain ⟨ad1, he, hc⟩ := h.2.2 h0
  rw [had] at he
  cases he
  have := World.block_lt_of_cell? w _ (hc 0 h0)
  rw [add_block] at this
  exact this
theorem bt_drop {t u : ByteArray} {j : Nat} (h : bytesOf u = (bytesOf t).drop j) (k : Nat) : bt u k = bt t ((j + k : Nat) : Int) := by
  rw [← rd_bytesOf, ← rd_bytesOf, h, rd, rd, Int.toNat_natCast, Int.toNat_natCast, List.getD_eq_getElem?_getD, List.getD_eq_getElem?_getD, List.getElem?_drop]
/-- One more piece was eaten and told. -/
theorem read_step {w wr w2 w3 : World} {t u : ByteArray} {s0 s s2 : CS} {M j i m : Nat} {os os2 : List Int} {o o3 : Value} (h : ReadAt w g T t s0 M j i u os o s wr) (hm : m ≤ u.size) (hr : run cnx s ((bytesOf u).take m) = some (s2, os2)) (hf : os2.length ≤ m) (h2 : Kp (fun k => k = g) wr w2)
    (hg : w2.grownBy w3 o.ownBlock) (ho : w3.ownsRow w.heap.size 34 1 o3 (os.length + os2.length) (nums .u32 (os ++ os2))) :
    j + m ≤ t.size ∧ run cnx s0 ((bytesOf t).take (j + m)) = some (s2, os ++ os2) ∧ w3.ownsRow w.heap.size 34 1 o3 (os ++ os2).length (nums .u32 (os ++ os2)) ∧ Kp (fun k => k = g) w w3 ∧ (os ++ os2).length ≤ j + m := by
  have hsz := h.size
  have hle := h.le
  refine ⟨by omega, ?_, by rw [List.length_append]; exact ho, (h.kp.tr h2).trans (F1 := fun k => o.ownBlock = some k) (Kp.of_grown hg (fun k hk => hk)) (fun k hk => .inr (own_base h.own k hk)), by rw [List.length_append]; have := h.few; omega⟩
  rw [List.take_add, ← h.u, run_append, h.run]
  simp only [Option.bind_some, hr, Option.map_some]
theorem read_next {w wr w2 w3 w4 : World} {t u : ByteArray} {s0 s s2 : CS} {M j i m : Nat} {os os2 : List Int} {o o3 : Value} (h : ReadAt w g T t s0 M j i u os o s wr) (hm : m ≤ u.size) (hr : run cnx s ((bytesOf u).take m) = some (s2, os2)) (hf : os2.length ≤ m) (h2 : Kp (fun k => k = g) wr w2)
    (hg : w2.grownBy w3 o.ownBlock) (ho : w3.ownsRow w.heap.size 34 1 o3 (os.length + os2.length) (nums .u32 (os ++ os2))) (hok : cok s2) (hb : Below w3.heap.size w3 w4) (hd : Dec w4 g T ((j : Int) + m) 0 0 false nilv [] (cown s2)) (hc : i + 1 ≤ M + (j + m)) :
    ReadAt w g T t s0 M (j + m) (i + 1) (u.extract m u.size) (os ++ os2) o3 s2 w4 := by
  obtain ⟨h1, h3, h5, h6, h7⟩ := read_step h hm hr hf h2 hg ho
  exact ⟨by rw [(extract_from u m hm).2, h.u, List.drop_drop], h1, h3, hok, by rw [Int.natCast_add]; exact hd, pw_own_below h5 hb, h6.trans (F1 := fun _ => False) (Kp.of_below hb) (fun _ hk => hk.elim), h7, hc⟩
theorem read_wrong {w wr w2 w3 w4 : World} {t u : ByteArray} {s0 s s2 s3 : CS} {M j i m : Nat} {os os2 : List Int} {o o3 : Value} (h : ReadAt w g T t s0 M j i u os o s wr) (hm : m < u.size) (hr : run cnx s ((bytesOf u).take m) = some (s2, os2)) (hf : os2.length ≤ m) (h2 : Kp (fun k => k = g) wr w2)
    (hg : w2.grownBy w3 o.ownBlock) (ho : w3.ownsRow w.heap.size 34 1 o3 (os.length + os2.length) (nums .u32 (os ++ os2))) (hok : cok s2) (hb : Below w3.heap.size w3 w4) (hd : Dec w4 g T ((j : Int) + m) 3 ((j : Int) + m) false nilv [] (cown s3)) (hn : cnx s2 (bt u m) = none) :
    ReadPost w g T t s0 (.returned (.tuple #[o3, .bool true])) w4 := by
  obtain ⟨h1, h3, h5, h6, h7⟩ := read_step h (by omega) hr hf h2 hg ho
  have hsz := h.size
  refine ⟨j + m, os ++ os2, o3, s2, rfl, h1, h3, pw_own_below h5 hb, h6.trans (F1 := fun _ => False) (Kp.of_below hb) (fun _ hk => hk.elim), h7, hok, .inr (.inr ⟨by omega, ?_, s3, ?_⟩)⟩
  · rw [← bt_drop h.u m]; exact hn
  · rw [Int.natCast_add]; exact hd
theorem read_done {w wr w2 w3 w4 w5 : World} {t u : ByteArray} {s0 s s2 : CS} {M j i m : Nat} {os os2 : List Int} {o o3 : Value} (h : ReadAt w g T t s0 M j i u os o s wr) (hm : m = u.size) (hr : run cnx s ((bytesOf u).take m) = some (s2, os2)) (hf : os2.length ≤ m) (h2 : Kp (fun k => k = g) wr w2) (hgl : g < w.heap.size)
    (hg : w2.grownBy w3 o.ownBlock) (ho : w3.ownsRow w.heap.size 34 1 o3 (os.length + os2.length) (nums .u32 (os ++ os2))) (hok : cok s2) (hb : Below w3.heap.size w3 w4) (h5 : Stp w4 g nilv w5 nilv)
    (hd : (ccut s2 = false ∧ Dec w5 g T ((j : Int) + m) 0 0 true nilv [] (cown s2)) ∨ (ccut s2 = true ∧ Dec w5 g T ((j : Int) + m) 4 ((j : Int) + m) false nilv [] (cown s2))) :
    ReadPost w g T t s0 (.returned (.tuple #[o3, .bool true])) w5 := by
  obtain ⟨h1, h3, h9, h6, h7⟩ := read_step h (by omega) hr hf h2 hg ho
  have hsz := h.size
  have hle := h.le
  have ho5 : w5.ownsRow w.heap.size 34 1 o3 (os ++ os2).length (nums .u32 (os ++ os2)) := h5.nil.own (pw_own_below h9 hb) (fun k hk he => by have := own_base h9 k hk; omega)
  refine ⟨j + m, os ++ os2, o3, s2, rfl, h1, h3, ho5, (h6.trans (F1 := fun _ => False) (Kp.of_below hb) (fun _ hk => hk.elim)).tr h5.nil, h7, hok, ?_⟩
  rcases hd with ⟨hc, hd⟩ | ⟨hc, hd⟩
  · exact .inl ⟨by omega, hc, by rw [Int.natCast_add]; exact hd⟩
  · exact .inr (.inl ⟨by omega, hc, by rw [Int.natCast_add]; exact hd⟩)
set_option maxRecDepth 100000 in
set_option maxHeartbeats 4000000 in
theorem read_any (t : ByteArray) (A1 A2 : Option Addr) (n1 c1 n2 c2 : Nat) (ps rs : List Int) (s0 : CS) (hs : cok s0) (ht : t.size ≤ 100000) (h1 : n1 ≤ 100000) (h2 : n2 ≤ 100000) (hp : ReadsInt w .i64 A1 n1 ps) (hr : ReadsInt w .i64 A2 n2 rs) (hpg : ∀ ad, A1 = some ad → 0 < n1 → ad.block ≠ g) (hrg : ∀ ad, A2 = some ad → 0 < n2 → ad.block ≠ g) (h : Dec w g T 0 0 0 false nilv [] (cown s0)) :
    Calls Try.prog 20 #[.pointer (some ⟨g, 0, none⟩), .string t, .slice A1 n1 c1, .slice A2 n2 c2] w (ReadPost w g T t s0) := by
  have huF := fld0
  have HP := Lib.hid hp
  have HR := Lib.hid hr
  have HPG := Lib.hid hpg
  have HRG := Lib.hid hrg
  have HGL := Lib.hid h.lt
  have HS : Hid (ReadAt w g T t s0 (max n1 n2) 0 0 t [] (.slice none 0 0) s0 w) := ⟨rfl, Nat.zero_le _, rfl, hs, by simpa using h, own_nil _ _ _ _, Kp.refl _ _, Nat.zero_le _, Nat.zero_le _⟩
  clear hp hr hpg hrg h hs
  go_enter Try.func20, Try.ntmps20
  go_wp2_with fail
  go_loopg [1, 10, 12] (n1 + n2 + t.size + 8) (fun q u o k wr => ∃ (i j : Nat) (ub : ByteArray) (os : List Int) (s : CS), q + i = n1 + n2 + t.size + 8 ∧ k = .int .i64 i ∧ u = .string ub ∧ ReadAt w g T t s0 (max n1 n2) j i ub os o s wr)
  case atStart => exact ⟨0, 0, t, [], s0, rfl, rfl, rfl, HS.out⟩
  case round =>
    obtain ⟨i, j, u, os, s, hq, rfl, rfl, hra⟩ := hrel
    have hsz := hra.size
    have hle := hra.le
    have hcnt := hra.cnt
    have hfew := hra.few
    have hu : u.size ≤ 100000 := by omega
    have hii : i < n1 + n2 + t.size + 8 := by omega
    have hposn : (0 : Int) ≤ u.size := by omega
    obtain ⟨AO, cO, rfl⟩ := own_slice hra.own
    have HRA := Lib.hid hra
    have HQ := Lib.hid hq
    have HSZ := Lib.hid hsz
    clear hq hra hsz
    go_upto_if 39 with fail
    go_cut [13] (fun n wc => ∃ N : Int, n = .int .i64 N ∧ 0 ≤ N ∧ N ≤ u.size ∧ (n1 ≤ i → N = u.size) ∧ wr = wc)
    case first =>
      by_cases hi : i < n1
      · have hb1 : decide (i < n1) = true := by simp [hi]
        have hp1 := reads_kp0 HP.out HRA.out.kp HPG.out
        obtain ⟨ad, rfl, hc⟩ := hp1.at_ (i : Int) (by omega) (by omega)
        rw [Int.toNat_natCast] at hc
        clear hp1
        go_wp2_with fail
        all_goals go_meet
        all_goals first | exact ⟨_, rfl, by omega, by omega, fun h => by omega, rfl⟩
      · have hb1 : decide (i < n1) = false := by simp [hi]
        go_wp2_with fail
        all_goals go_meet
        all_goals exact ⟨_, rfl, by omega, by omega, fun h => rfl, rfl⟩
    case rest =>
      obtain ⟨N, rfl, hN0, hN1, hN2, rfl⟩ := hcut
      have HN2 := Lib.hid hN2
      clear hN2
      go_upto_if 50 with fail
      go_cut [14] (fun n wc => ∃ R : Int, n = .int .i64 R ∧ 0 ≤ R ∧ R ≤ 100 ∧ (n2 ≤ i → R = 8) ∧ wr = wc)
      case first =>
        by_cases hi : i < n2
        · have hb1 : decide (i < n2) = true := by simp [hi]
          have hp1 := reads_kp0 HR.out HRA.out.kp HRG.out
          obtain ⟨ad, rfl, hc⟩ := hp1.at_ (i : Int) (by omega) (by omega)
          rw [Int.toNat_natCast] at hc
          clear hp1
          go_wp2_with fail
          all_goals go_meet
          all_goals first | exact ⟨_, rfl, by omega, by omega, fun h => by omega, rfl⟩
        · have hb1 : decide (i < n2) = false := by simp [hi]
          go_wp2_with fail
          all_goals go_meet
          all_goals exact ⟨_, rfl, by omega, by omega, fun h => rfl, rfl⟩
      case rest =>
        obtain ⟨R, rfl, hR0, hR1, hR2, rfl⟩ := hcut
        have HR2 := Lib.hid hR2
        clear hR2
        go_wp2_with fail
        have HX := Lib.hid (extract_to u N.toNat (by omega))
        refine (feed_any (u.extract 0 N.toNat) R s HRA.out.ok (by have := HX.out.1; omega) (by omega) (by omega) HRA.out.dec).mono ?_
        rintro en w2 ⟨m, os2, r2, s2, rfl, hm, hrun, ho2, hk2, hrm, hf2, hok2, hcase⟩
        have hmN : (m : Int) ≤ N := by have := HX.out.1; omega
        have hlR : (os2.length : Int) ≤ R := by
          rcases hrm with h9 | h9
          · exact h9
          · rw [h9]; simpa using hR0
        have hmu : m ≤ u.size := by omega
        rw [HX.out.2.1, List.take_take, Nat.min_eq_left (by omega)] at hrun
        obtain ⟨A4, c4, rfl, hrd⟩ := own_reads ho2
        have HRUN := Lib.hid hrun
        have HF2 := Lib.hid hf2
        have HOK2 := Lib.hid hok2
        have HK2 := Lib.hid hk2
        have HRD := Lib.hid hrd
        have HBASE := Lib.hid (Nat.le_trans HRA.out.kp.size hk2.size)
        have HLEN : Hid ((os.length + os2.length) * 4 ≤ 140737488355328) := by show _ ≤ _; omega
        have HOW2 := Lib.hid (hk2.own HRA.out.own (fun k hk he => by have := own_base HRA.out.own k hk; have := HGL.out; omega))
        have hex : (u.extract m u.size).toList.isEmpty = decide (u.size - m = 0) := by rw [isEmpty_size, (extract_from u m hmu).1]
        rcases hcase with ⟨hd2, hx⟩ | ⟨hlt, hno, s3, hd2⟩
        · have HXX := Lib.hid hx
          have HD2 := Lib.hid hd2
          clear hx hd2 hrun hf2 hok2 hk2 hrd ho2 hrm
          by_cases hbr : m = u.size ∧ n1 ≤ i
          · obtain ⟨hmeq, hni⟩ := hbr
            have hb1 : decide (n1 ≤ i) = true := by simp [hni]
            have he1 : (u.extract m u.size).toList.isEmpty = true := by rw [hex]; simp; omega
            have HM := Lib.hid hmeq
            clear hex hmeq
            cases hcc : ccut s2 with
            | true =>
              have HCC := Lib.hid hcc
              clear hcc
              go_wp2_with (first | (at_builtin; go_must (refine print_append_row (w0 := w2) w.heap.size rfl (.tmp 79) (.tmp 80) 22 34 .u32 4 rfl Try.underlying22 infoU (by omega) (.slice AO os.length cO) os os2 A4 os2.length c4 rfl rfl HOW2.out HRD.out (Below.refl _ _) HBASE.out HLEN.out ?_); intro v3 w3 ho3 hb3 hg3 hat3; obtain ⟨A3, c3, rfl⟩ := own_slice ho3; rw [List.length_append] at ho3; have HO3 := Lib.hid ho3; have HG3 := Lib.hid hg3; have HD3 := Lib.hid (HD2.out.nilmove (hb3.block g HGL.out)); clear ho3 hb3 hg3 hat3) | (go_at_call 23; go_must (refine (dec_fail HD3.out).mono ?_); rintro e w4 ⟨rfl, hb4⟩; have HB4 := Lib.hid hb4; have HD4 := Lib.hid (HD3.out.below hb4); clear hb4) | (go_at_call 31; go_must (refine (dend_cut s2 HCC.out HD4.out).mono ?_); rintro e w5 ⟨rfl, hd5, hs5⟩; have HD5 := Lib.hid hd5; have HS5 := Lib.hid hs5; clear hd5 hs5))
              refine wp_loop_rounds 1 ?_
              rw [rounds_succ]
              go_wp2_with (first | (go_at_call 37; go_must (refine (dec_done_over rfl HD5.out).mono ?_); rintro e w6 ⟨rfl, rfl⟩))
              go_ret2
              exact read_done HRA.out HM.out HRUN.out HF2.out HK2.out HGL.out HG3.out HO3.out HOK2.out HB4.out HS5.out (.inr ⟨HCC.out, HD5.out⟩)
            | false =>
              have HCC := Lib.hid hcc
              clear hcc
              go_wp2_with (first | (at_builtin; go_must (refine print_append_row (w0 := w2) w.heap.size rfl (.tmp 79) (.tmp 80) 22 34 .u32 4 rfl Try.underlying22 infoU (by omega) (.slice AO os.length cO) os os2 A4 os2.length c4 rfl rfl HOW2.out HRD.out (Below.refl _ _) HBASE.out HLEN.out ?_); intro v3 w3 ho3 hb3 hg3 hat3; obtain ⟨A3, c3, rfl⟩ := own_slice ho3; rw [List.length_append] at ho3; have HO3 := Lib.hid ho3; have HG3 := Lib.hid hg3; have HD3 := Lib.hid (HD2.out.nilmove (hb3.block g HGL.out)); clear ho3 hb3 hg3 hat3) | (go_at_call 23; go_must (refine (dec_fail HD3.out).mono ?_); rintro e w4 ⟨rfl, hb4⟩; have HB4 := Lib.hid hb4; have HD4 := Lib.hid (HD3.out.below hb4); clear hb4) | (go_at_call 31; go_must (refine (dend_ok s2 HCC.out HD4.out).mono ?_); rintro e w5 ⟨rfl, hd5, hs5⟩; have HD5 := Lib.hid hd5; have HS5 := Lib.hid hs5; clear hd5 hs5))
              refine wp_loop_rounds 1 ?_
              rw [rounds_succ]
              go_wp2_with (first | (go_at_call 37; go_must (refine (dec_done_over rfl HD5.out).mono ?_); rintro e w6 ⟨rfl, rfl⟩))
              go_ret2
              exact read_done HRA.out HM.out HRUN.out HF2.out HK2.out HGL.out HG3.out HO3.out HOK2.out HB4.out HS5.out (.inl ⟨HCC.out, HD5.out⟩)
          · have hcn : i + 1 ≤ max n1 n2 + (j + m) := by
              rcases Nat.lt_or_ge i (max n1 n2) with h9 | h9
              · omega
              · have e1 := HN2.out (by omega)
                have e2 := HR2.out (by omega)
                have e3 := HX.out.1
                have e4 := HF2.out
                rcases HXX.out with h8 | h8
                · exact absurd ⟨by omega, by omega⟩ hbr
                · omega
            have HCN := Lib.hid hcn
            by_cases hni : n1 ≤ i
            · have hb1 : decide (n1 ≤ i) = true := by simp [hni]
              have he1 : (u.extract m u.size).toList.isEmpty = false := by rw [hex]; simp; omega
              by_cases hni2 : n2 ≤ i
              · have hb2 : decide (n2 ≤ i) = true := by simp [hni2]
                have hm0 : ((m : Int) == 0) = false := by
                  have e1 := HN2.out hni
                  have e2 := HR2.out hni2
                  have e3 := HX.out.1
                  have e4 := HF2.out
                  have : m ≠ 0 := by
                    rcases HXX.out with h8 | h8
                    · exact absurd ⟨by omega, by omega⟩ hbr
                    · omega
                  simp; omega
                clear hex hbr hcn
                go_wp2_with (first | (at_builtin; go_must (refine print_append_row (w0 := w2) w.heap.size rfl (.tmp 79) (.tmp 80) 22 34 .u32 4 rfl Try.underlying22 infoU (by omega) (.slice AO os.length cO) os os2 A4 os2.length c4 rfl rfl HOW2.out HRD.out (Below.refl _ _) HBASE.out HLEN.out ?_); intro v3 w3 ho3 hb3 hg3 hat3; obtain ⟨A3, c3, rfl⟩ := own_slice ho3; rw [List.length_append] at ho3; have HO3 := Lib.hid ho3; have HG3 := Lib.hid hg3; have HD3 := Lib.hid (HD2.out.nilmove (hb3.block g HGL.out)); clear ho3 hb3 hg3 hat3) | (go_at_call 23; go_must (refine (dec_fail HD3.out).mono ?_); rintro e w4 ⟨rfl, hb4⟩; have HB4 := Lib.hid hb4; have HD4 := Lib.hid (HD3.out.below hb4); clear hb4))
                go_roundg (gk - 1)
                case measure => have := HQ.out; omega
                case rel => exact ⟨i + 1, j + m, u.extract m u.size, os ++ os2, s2, by have := HQ.out; omega, rfl, rfl, read_next HRA.out hmu HRUN.out HF2.out HK2.out HG3.out HO3.out HOK2.out HB4.out HD4.out HCN.out⟩
              · have hb2 : decide (n2 ≤ i) = false := by simp; omega
                clear hex hbr hcn
                go_wp2_with (first | (at_builtin; go_must (refine print_append_row (w0 := w2) w.heap.size rfl (.tmp 79) (.tmp 80) 22 34 .u32 4 rfl Try.underlying22 infoU (by omega) (.slice AO os.length cO) os os2 A4 os2.length c4 rfl rfl HOW2.out HRD.out (Below.refl _ _) HBASE.out HLEN.out ?_); intro v3 w3 ho3 hb3 hg3 hat3; obtain ⟨A3, c3, rfl⟩ := own_slice ho3; rw [List.length_append] at ho3; have HO3 := Lib.hid ho3; have HG3 := Lib.hid hg3; have HD3 := Lib.hid (HD2.out.nilmove (hb3.block g HGL.out)); clear ho3 hb3 hg3 hat3) | (go_at_call 23; go_must (refine (dec_fail HD3.out).mono ?_); rintro e w4 ⟨rfl, hb4⟩; have HB4 := Lib.hid hb4; have HD4 := Lib.hid (HD3.out.below hb4); clear hb4))
                go_roundg (gk - 1)
                case measure => have := HQ.out; omega
                case rel => exact ⟨i + 1, j + m, u.extract m u.size, os ++ os2, s2, by have := HQ.out; omega, rfl, rfl, read_next HRA.out hmu HRUN.out HF2.out HK2.out HG3.out HO3.out HOK2.out HB4.out HD4.out HCN.out⟩
            · have hb1 : decide (n1 ≤ i) = false := by simp; omega
              by_cases hee : u.size - m = 0
              · have he1 : (u.extract m u.size).toList.isEmpty = true := by rw [hex]; simp [hee]
                clear hex hbr hcn hee
                go_wp2_with (first | (at_builtin; go_must (refine print_append_row (w0 := w2) w.heap.size rfl (.tmp 79) (.tmp 80) 22 34 .u32 4 rfl Try.underlying22 infoU (by omega) (.slice AO os.length cO) os os2 A4 os2.length c4 rfl rfl HOW2.out HRD.out (Below.refl _ _) HBASE.out HLEN.out ?_); intro v3 w3 ho3 hb3 hg3 hat3; obtain ⟨A3, c3, rfl⟩ := own_slice ho3; rw [List.length_append] at ho3; have HO3 := Lib.hid ho3; have HG3 := Lib.hid hg3; have HD3 := Lib.hid (HD2.out.nilmove (hb3.block g HGL.out)); clear ho3 hb3 hg3 hat3) | (go_at_call 23; go_must (refine (dec_fail HD3.out).mono ?_); rintro e w4 ⟨rfl, hb4⟩; have HB4 := Lib.hid hb4; have HD4 := Lib.hid (HD3.out.below hb4); clear hb4))
                go_roundg (gk - 1)
                case measure => have := HQ.out; omega
                case rel => exact ⟨i + 1, j + m, u.extract m u.size, os ++ os2, s2, by have := HQ.out; omega, rfl, rfl, read_next HRA.out hmu HRUN.out HF2.out HK2.out HG3.out HO3.out HOK2.out HB4.out HD4.out HCN.out⟩
              · have he1 : (u.extract m u.size).toList.isEmpty = false := by rw [hex]; simp; omega
                clear hex hbr hcn hee
                go_wp2_with (first | (at_builtin; go_must (refine print_append_row (w0 := w2) w.heap.size rfl (.tmp 79) (.tmp 80) 22 34 .u32 4 rfl Try.underlying22 infoU (by omega) (.slice AO os.length cO) os os2 A4 os2.length c4 rfl rfl HOW2.out HRD.out (Below.refl _ _) HBASE.out HLEN.out ?_); intro v3 w3 ho3 hb3 hg3 hat3; obtain ⟨A3, c3, rfl⟩ := own_slice ho3; rw [List.length_append] at ho3; have HO3 := Lib.hid ho3; have HG3 := Lib.hid hg3; have HD3 := Lib.hid (HD2.out.nilmove (hb3.block g HGL.out)); clear ho3 hb3 hg3 hat3) | (go_at_call 23; go_must (refine (dec_fail HD3.out).mono ?_); rintro e w4 ⟨rfl, hb4⟩; have HB4 := Lib.hid hb4; have HD4 := Lib.hid (HD3.out.below hb4); clear hb4))
                go_roundg (gk - 1)
                case measure => have := HQ.out; omega
                case rel => exact ⟨i + 1, j + m, u.extract m u.size, os ++ os2, s2, by have := HQ.out; omega, rfl, rfl, read_next HRA.out hmu HRUN.out HF2.out HK2.out HG3.out HO3.out HOK2.out HB4.out HD4.out HCN.out⟩
        · have HNO := Lib.hid hno
          have HLT := Lib.hid hlt
          have HD2 := Lib.hid hd2
          clear hno hd2 hrun hf2 hok2 hk2 hrd ho2 hrm hex
          go_wp2_with (first | (at_builtin; go_must (refine print_append_row (w0 := w2) w.heap.size rfl (.tmp 79) (.tmp 80) 22 34 .u32 4 rfl Try.underlying22 infoU (by omega) (.slice AO os.length cO) os os2 A4 os2.length c4 rfl rfl HOW2.out HRD.out (Below.refl _ _) HBASE.out HLEN.out ?_); intro v3 w3 ho3 hb3 hg3 hat3; obtain ⟨A3, c3, rfl⟩ := own_slice ho3; rw [List.length_append] at ho3; have HO3 := Lib.hid ho3; have HG3 := Lib.hid hg3; have HD3 := Lib.hid (HD2.out.nilmove (hb3.block g HGL.out)); clear ho3 hb3 hg3 hat3) | (go_at_call 23; go_must (refine (dec_fail HD3.out).mono ?_); rintro e w4 ⟨rfl, hb4⟩; have HB4 := Lib.hid hb4; have HD4 := Lib.hid (HD3.out.below hb4); clear hb4) | (go_at_call 31; go_must (refine (dend_err s3 rfl HD4.out).mono ?_); rintro e w5 ⟨rfl, rfl⟩))
          refine wp_loop_rounds 1 ?_
          rw [rounds_succ]
          go_wp2_with (first | (go_at_call 37; go_must (refine (dec_done_over rfl HD4.out).mono ?_); rintro e w6 ⟨rfl, rfl⟩))
          go_ret2
          exact read_wrong HRA.out (by have := HX.out.1; have := HLT.out; omega) HRUN.out HF2.out HK2.out HG3.out HO3.out HOK2.out HB4.out HD4.out (by have h9 := HNO.out; rw [HX.out.2.2 m (by have := HX.out.1; have := HLT.out; omega)] at h9; exact h9)
end
end Go.Proofs.Ythodifmfamflpaa
