/- The law Resets, plain and walked. -/
import Derived.Test.YthodifmfamflpaaLc
import Derived.Test.YthodifmfamflpaaL3
import Derived.Deep.RegionHeld3
import Derived.Deep.RegionHeldLaw
namespace Go.Proofs.Ythodifmfamflpaa
open Go.RowKit Go.Proofs.YthodifmfamflpaaW.PrintWords Go.Proofs.YthodifmfamflpaaW.PrintMore
set_option linter.unusedVariables false
set_option linter.unusedSimpArgs false
set_option maxRecDepth 20000
/-- Behind a control the state is as at the beginning. -/
theorem run_last : ∀ (l : List Int) {s s' : CS} {os : List Int}, cok s → run cnx s l = some (s', os) → ∀ c, os.getLast? = some c → c < 32 → s'.pv = 64
  | [], s, s', os, _, h, c, hc, _ => by
    simp only [run, Option.some.injEq, Prod.mk.injEq] at h
    rw [← h.2] at hc
    simp at hc
  | b :: l, s, s', os, hs, h, c, hc, hlt => by
    rw [run] at h
    cases hb : cnx s b with
    | none => rw [hb] at h; cases h
    | some p =>
      obtain ⟨s1, r⟩ := p
      rw [hb, Option.bind_some] at h
      obtain ⟨q, hq, he⟩ := Option.map_eq_some_iff.1 h
      obtain ⟨q1, q2⟩ := q
      simp only [Prod.mk.injEq] at he
      obtain ⟨rfl, rfl⟩ := he
      have hs1 := cnx_ok hs hb
      cases hq2 : q2.getLast? with
      | some d =>
        have e : (r.toList ++ q2).getLast? = some d := by rw [List.getLast?_append, hq2]; rfl
        rw [e] at hc
        obtain rfl := Option.some.inj hc
        exact run_last l hs1 hq d hq2 hlt
      | none =>
        obtain rfl : q2 = [] := List.getLast?_eq_none_iff.1 hq2
        rw [List.append_nil] at hc
        have hr : r = some c := by cases r <;> simp_all
        subst hr
        have hpv : s1.pv = 64 := by
          rcases cnx_cases hs hb with ⟨_, _, _, h4⟩ | ⟨_, _, rfl, h4⟩ | ⟨_, _, _, _, _, _, _, _, h4⟩ | ⟨_, _, _, _, _, h1, _, _, h4⟩
          · cases h4
          · obtain rfl := Option.some.inj h4
            simp only
            rw [if_pos hlt]
          · cases h4
          · have := Option.some.inj h4
            omega
        have key : ∀ (l : List Int) {s s' : CS}, cok s → s.pv = 64 → run cnx s l = some (s', []) → s'.pv = 64 := by
          intro l
          induction l with
          | nil =>
            intro s s' _ h1 h2
            simp only [run, Option.some.injEq, Prod.mk.injEq] at h2
            rw [← h2.1]; exact h1
          | cons x l ih =>
            intro s s' g1 h1 h2
            rw [run] at h2
            cases hx : cnx s x with
            | none => rw [hx] at h2; cases h2
            | some p =>
              obtain ⟨s2, r2⟩ := p
              rw [hx, Option.bind_some] at h2
              obtain ⟨y, hy, hy2⟩ := Option.map_eq_some_iff.1 h2
              obtain ⟨y1, y2⟩ := y
              simp only [Prod.mk.injEq] at hy2
              obtain ⟨rfl, e2⟩ := hy2
              obtain ⟨e3, rfl⟩ := List.append_eq_nil_iff.1 e2
              refine ih (cnx_ok g1 hx) ?_ hy
              rcases cnx_cases g1 hx with ⟨_, _, rfl, _⟩ | ⟨_, _, _, h4⟩ | ⟨_, _, _, _, _, _, _, rfl, _⟩ | ⟨_, _, _, _, _, _, _, _, h4⟩
              · rfl
              · subst h4; cases e3
              · exact h1
              · subst h4; cases e3
        exact key l hs1 hpv hq
/-- Where a text is wrong, or its end: there read stops. -/
theorem read_uniq {w w' : World} {g T : Nat} {t : ByteArray} {s0 s : CS} {os : List Int} {en : Ending} {m : Nat} (h : ReadPost w g T t s0 en w') (hm : m ≤ t.size) (hr : run cnx s0 ((bytesOf t).take m) = some (s, os)) (hn : m = t.size ∨ (m < t.size ∧ cnx s (bt t m) = none)) :
    ∃ r s' f d, en = .returned (.tuple #[r, .bool true]) ∧ w'.ownsRow w.heap.size 34 1 r os.length (nums .u32 os) ∧ Kp (fun k => k = g) w w' ∧ os.length ≤ m ∧ Dec w' g T m (if m < t.size then 3 else if ccut s = true then 4 else 0) f d nilv [] (cown s') := by
  obtain ⟨m3, os3, r, s3, rfl, hm3, hrun, ho, hkp, hol, hcs, hend⟩ := h
  have bad : ∀ {q : Nat} {z : CS} {o : List Int}, q < t.size → run cnx s0 ((bytesOf t).take q) = some (z, o) → cnx z (bt t q) = none → run cnx s0 ((bytesOf t).take (q + 1)) = none := by
    intro q z o h1 h2 h3
    rw [take_bt t q h1, run_snoc, h2, Option.bind_some, h3]; rfl
  have hend2 : m3 = t.size ∨ (m3 < t.size ∧ cnx s3 (bt t m3) = none) := by
    rcases hend with ⟨h0, _, _⟩ | ⟨h0, _, _⟩ | ⟨h0, h1, _⟩
    · exact .inl h0
    · exact .inl h0
    · exact .inr ⟨h0, h1⟩
  have heq : m3 = m := by
    rcases Nat.lt_trichotomy m3 m with h9 | h9 | h9
    · rcases hend2 with h8 | ⟨h8, h7⟩
      · omega
      · rw [run_none (k := m3 + 1) h9 (bad h8 hrun h7)] at hr; cases hr
    · exact h9
    · rcases hn with h8 | ⟨h8, h7⟩
      · omega
      · rw [run_none (k := m + 1) h9 (bad h8 hr h7)] at hrun; cases hrun
  subst heq
  rw [hr] at hrun
  simp only [Option.some.injEq, Prod.mk.injEq] at hrun
  obtain ⟨rfl, rfl⟩ := hrun
  rcases hend with ⟨h0, h1, h2⟩ | ⟨h0, h1, h2⟩ | ⟨h0, h1, s', h2⟩
  · exact ⟨r, s, 0, true, rfl, ho, hkp, hol, by rw [if_neg (by omega), if_neg (by rw [h1]; decide)]; exact h2⟩
  · exact ⟨r, s, m3, false, rfl, ho, hkp, hol, by rw [if_neg (by omega), if_pos h1]; exact h2⟩
  · exact ⟨r, s', m3, false, rfl, ho, hkp, hol, by rw [if_pos h0]; exact h2⟩
/-- Two texts, and what stands between them. -/
theorem joint_run {a J b : ByteArray} {s1 s2 : CS} {os1 os2 : List Int} {m2 : Nat} (h1 : run cnx st0 (bytesOf a) = some (s1, os1)) (hp : s1.pt = []) (hJ : J = ⟨#[255]⟩ ∨ (J = ⟨#[]⟩ ∧ s1.pv = 64)) (hm : m2 ≤ b.size) (h2 : run cnx st0 ((bytesOf b).take m2) = some (s2, os2)) (hn : m2 = b.size ∨ (m2 < b.size ∧ cnx s2 (bt b m2) = none)) :
    a.size + J.size + m2 ≤ (a ++ J ++ b).size ∧ run cnx st0 ((bytesOf (a ++ J ++ b)).take (a.size + J.size + m2)) = some (s2, os1 ++ os2) ∧ (a.size + J.size + m2 = (a ++ J ++ b).size ∨ (a.size + J.size + m2 < (a ++ J ++ b).size ∧ cnx s2 (bt (a ++ J ++ b) (a.size + J.size + m2 : Nat)) = none)) ∧ ((a.size + J.size + m2 < (a ++ J ++ b).size) ↔ m2 < b.size) := by
  have hz : (a ++ J ++ b).size = a.size + J.size + b.size := by rw [ByteArray.size_append, ByteArray.size_append]
  have hbs : bytesOf (a ++ J ++ b) = bytesOf a ++ bytesOf J ++ bytesOf b := by rw [bytesOf_append, bytesOf_append]
  have hla := bytesOf_length a
  have hlJ := bytesOf_length J
  have hrJ : run cnx st0 (bytesOf a ++ bytesOf J) = some (st0, os1) := by
    rw [run_append, h1, Option.bind_some]
    obtain ⟨pv, pt⟩ := s1
    simp only at hp hJ
    subst hp
    rcases hJ with rfl | ⟨rfl, rfl⟩
    · have e : bytesOf (⟨#[255]⟩ : ByteArray) = [255] := rfl
      have e2 : cnx ⟨pv, []⟩ 255 = some (⟨64, []⟩, none) := by unfold cnx; rw [if_pos ⟨rfl, rfl⟩]
      rw [e]
      simp only [run, e2, Option.bind_some, Option.map_some]
      simp
    · have e : bytesOf (⟨#[]⟩ : ByteArray) = [] := rfl
      rw [e]
      simp [run]
  have hL : (bytesOf a ++ bytesOf J).length = a.size + J.size := by rw [List.length_append, hla, hlJ]
  refine ⟨by omega, ?_, ?_, by omega⟩
  · rw [hbs, ← hL, List.take_length_add_append, run_append, hrJ, Option.bind_some, h2]
    rfl
  · rcases hn with h9 | ⟨h9, h8⟩
    · exact .inl (by omega)
    · refine .inr ⟨by omega, ?_⟩
      have hb : bt (a ++ J ++ b) ((a.size + J.size + m2 : Nat) : Int) = bt b (m2 : Int) := by
        rw [← getD_bt, ← getD_bt, hbs, ← hL, List.getD_eq_getElem?_getD, List.getD_eq_getElem?_getD, List.getElem?_append_right (by omega), Nat.add_sub_cancel_left]
      rw [hb]
      exact h8
theorem step_qapp {P : Program} {ops : Array Oper} {o : Oper} {a : Act} {w : World} {K : Act → World → Prop} {Q : Exit → Act → World → Prop} {E : Prop}
    (base : Nat) (hw : Region.wanted o (yielded ops a.tmps) = true) (s x : Operand) (t e : TypeId) (k : IntKind) (bytes : Nat) (ho : o.op = .call { callee := .builtin .append, args := #[s, x], argTypes := #[t, t] })
    (ht : P.underlying t = some (.slice e)) (hinfo : (P.info? e).map (fun i => (i.zero, i.size, i.bytes)) = some (some (.int k 0), 1, bytes)) (hb0 : 0 < bytes)
    (v : Value) (xs ys : List Int) (A : Option Addr) (m c : Nat) (hs : a.eval s = v) (hx : a.eval x = .slice A m c) (HO : QRow w base e 1 v xs.length (nums k xs)) (HR : ReadsInt w k A m ys) (hbase : base ≤ w.heap.size) (hl : (xs.length + m) * bytes ≤ 140737488355328)
    (h : ∀ v1 w1, QRow w1 base e 1 v1 (xs.length + ys.length) (nums k (xs ++ ys)) → w.grownBy w1 v.ownBlock → (v1.ownBlock = v.ownBlock ∨ ∃ b, v1.ownBlock = some b ∧ w.heap.size ≤ b) → K (a.put o.dst v1) w1) :
    if Region.wanted o (yielded ops a.tmps) = true then Oper.wp P o a w K Q else E := by
  rw [if_pos hw]
  obtain ⟨v1, w1, hr, h1, h2, h3⟩ := q_append_any (P := P) w base t o.type e k bytes ht hinfo v xs ys A m c HO HR hb0 hbase hl
  unfold Oper.wp execOp
  simp only [ho, resolve, invoke, builtin, Sem.run_bind, Sem.run_pure, Result.andThen_ok, List.map_toArray, List.map_cons, List.map_nil, hs, hx, hr]
  exact h v1 w1 h1 h2 h3
theorem resets_great (a b : ByteArray) (w : World) (hg : (decide (400 < (a.size : Int)) || (decide (200 < 0) || decide (200 < 0))) = true) :
    Calls Try.prog 9 #[.string a, .string b] w fun en w' => en = .returned (.bool true) ∧ Below w.heap.size w w' := by
  go_enter Try.func9, Try.ntmps9
  go_wp2_with fail
  refine (awake_any _).mono ?_
  rintro en w2 ⟨rfl, hb2⟩
  have HB2 := Lib.hid hb2
  clear hb2
  go_wp2_with fail
  refine (great_any _ _ _ _ _ _ _ _).mono ?_
  rw [hg]
  rintro en w3 ⟨rfl, rfl⟩
  go_wp2_with fail
  refine (awake_any _).mono ?_
  rintro en w4 ⟨rfl, hb4⟩
  have HB4 := Lib.hid (HB2.out.trans (hb4.mono HB2.out.size))
  clear hb4
  go_wp2_with fail
  go_ret
  exact ⟨rfl, HB4.out⟩
theorem resets_great2 (a b : ByteArray) (w : World) (hg : (decide (400 < (a.size : Int)) || (decide (200 < 0) || decide (200 < 0))) = false) (hg2 : (decide (400 < (b.size : Int)) || (decide (200 < 0) || decide (200 < 0))) = true) :
    Calls Try.prog 9 #[.string a, .string b] w fun en w' => en = .returned (.bool true) ∧ Below w.heap.size w w' := by
  go_enter Try.func9, Try.ntmps9
  go_wp2_with fail
  refine (awake_any _).mono ?_
  rintro en w2 ⟨rfl, hb2⟩
  have HB2 := Lib.hid hb2
  clear hb2
  go_wp2_with fail
  refine (great_any _ _ _ _ _ _ _ _).mono ?_
  rw [hg]
  rintro en w3 ⟨rfl, rfl⟩
  go_wp2_with fail
  refine (great_any _ _ _ _ _ _ _ _).mono ?_
  rw [hg2]
  rintro en w3 ⟨rfl, rfl⟩
  go_wp2_with fail
  refine (awake_any _).mono ?_
  rintro en w4 ⟨rfl, hb4⟩
  have HB4 := Lib.hid (HB2.out.trans (hb4.mono HB2.out.size))
  clear hb4
  go_wp2_with fail
  go_ret
  exact ⟨rfl, HB4.out⟩
set_option maxHeartbeats 8000000 in
theorem resets_walk {w : World} (a b : ByteArray) (hg : (decide (400 < (a.size : Int)) || (decide (200 < 0) || decide (200 < 0))) = false) (hg2 : (decide (400 < (b.size : Int)) || (decide (200 < 0) || decide (200 < 0))) = false) :
    Calls Try.prog 9 #[.string a, .string b] w fun en w' => en = .returned (.bool true) ∧ Below w.heap.size w w' := by
  have heq := eqF
  have huF := fld0
  have hza : a.size ≤ 400 := by simp at hg; omega
  have hzb : b.size ≤ 400 := by simp at hg2; omega
  go_enter Try.func9, Try.ntmps9
  go_wp2_with fail
  refine (awake_any _).mono ?_
  rintro en w2 ⟨rfl, hb2⟩
  have HB2 := Lib.hid hb2
  clear hb2
  go_wp2_with fail
  refine (great_any _ _ _ _ _ _ _ _).mono ?_
  rw [hg]
  rintro en w3 ⟨rfl, rfl⟩
  go_wp2_with fail
  refine (great_any _ _ _ _ _ _ _ _).mono ?_
  rw [hg2]
  rintro en w3 ⟨rfl, rfl⟩
  go_wp2_with fail
  refine (newd_any _).mono ?_
  rintro en w3 ⟨rfl, hd3, hb3⟩
  have HS2 := Lib.hid HB2.out.size
  generalize hgd : w2.heap.size = gd at *
  have HB3 := Lib.hid (HB2.out.trans (hb3.mono HS2.out))
  have HD3 := Lib.hid hd3
  clear hd3 hb3 hgd
  go_wp2_with fail
  refine (newd_any _).mono ?_
  rintro en w4 ⟨rfl, hd4, hb4⟩
  have HS3 := Lib.hid HB3.out.size
  have HDF := Lib.hid HD3.out.lt
  have HD4 := Lib.hid (HD3.out.below hb4)
  generalize hgf : w3.heap.size = gf at *
  have HB4 := Lib.hid (HB3.out.trans (hb4.mono HS3.out))
  have HF4 := Lib.hid hd4
  clear hd4 hb4 hgf
  go_wp2_with fail
  refine (newd_any _).mono ?_
  rintro en w5 ⟨rfl, hd5, hb5⟩
  have HS4 := Lib.hid HB4.out.size
  have HFG := Lib.hid HF4.out.lt
  have HD5 := Lib.hid (HD4.out.below hb5)
  have HF5 := Lib.hid (HF4.out.below hb5)
  generalize hgg : w4.heap.size = gg at *
  have HB5 := Lib.hid (HB4.out.trans (hb5.mono HS4.out))
  have HG5 := Lib.hid hd5
  clear hd5 hb5 hgg
  go_wp2_with fail
  refine (read_any a none none 0 0 0 0 [] [] st0 cok0 (by omega) (by omega) (by omega) (reads_nil _ _) (reads_nil _ _) none_ne none_ne HD5.out).mono ?_
  rintro en w6 ⟨m1, os1, r1, s1, rfl, hm1, hrun1, ho1, hk1, hol1, hcs1, hend1⟩
  obtain ⟨e1, f1, d1, z1, hd6, he1⟩ : ∃ (e f : Int) (d : Bool) (s' : CS), Dec w6 gd 54 m1 e f d nilv [] (cown s') ∧ (e = 0 → m1 = a.size ∧ ccut s1 = false) := by
    rcases hend1 with ⟨h0, h1, h2⟩ | ⟨h0, h1, h2⟩ | ⟨h0, h1, s', h2⟩
    · exact ⟨_, _, _, _, h2, fun _ => ⟨h0, h1⟩⟩
    · exact ⟨_, _, _, _, h2, fun h => by cases h⟩
    · exact ⟨_, _, _, _, h2, fun h => by cases h⟩
  obtain ⟨A1, c1, rfl, hle1, _⟩ := own_reads_of_le (enc := fun x => Value.int .u32 x) (d := (0 : Int)) ho1
  have HLE1 := Lib.hid hle1
  have HOW1 := Lib.hid ho1
  have HRUN1 := Lib.hid hrun1
  have HOL1 := Lib.hid hol1
  have HCS1 := Lib.hid hcs1
  have HE1 := Lib.hid he1
  have HD6 := Lib.hid hd6
  have hzm1 : os1.length ≤ 400 := by omega
  have HF6 := Lib.hid (HF5.out.by_ hk1 (Nat.ne_of_gt HDF.out))
  have HG6 := Lib.hid (HG5.out.by_ hk1 (Nat.ne_of_gt (Nat.lt_of_lt_of_le HDF.out (Nat.le_of_lt HFG.out))))
  have HB6 := Lib.hid (HB5.out.trans (hk1.below (B := w.heap.size) HB5.out.size (fun k hk => by rw [hk]; exact HS2.out)))
  clear hle1 ho1 hk1 hrun1 hol1 hcs1 hend1 he1 hd6 hm1
  go_wp2_with fail
  refine (read_any b none none 0 0 0 0 [] [] st0 cok0 (by omega) (by omega) (by omega) (reads_nil _ _) (reads_nil _ _) none_ne none_ne HF6.out).mono ?_
  rintro en w7 ⟨m2, os2, r2, s2, rfl, hm2, hrun2, ho2, hk2, hol2, hcs2, hend2⟩
  obtain ⟨e2, f2, d2, z2, hd7, he2, hn2⟩ : ∃ (e f : Int) (d : Bool) (s' : CS), Dec w7 gf 54 m2 e f d nilv [] (cown s') ∧ e = (if m2 < b.size then 3 else if ccut s2 = true then 4 else 0) ∧ (m2 = b.size ∨ (m2 < b.size ∧ cnx s2 (bt b m2) = none)) := by
    rcases hend2 with ⟨h0, h1, h2⟩ | ⟨h0, h1, h2⟩ | ⟨h0, h1, s', h2⟩
    · exact ⟨_, _, _, _, h2, by rw [if_neg (by omega), if_neg (by rw [h1]; decide)], .inl h0⟩
    · exact ⟨_, _, _, _, h2, by rw [if_neg (by omega), if_pos h1], .inl h0⟩
    · exact ⟨_, _, _, _, h2, by rw [if_pos h0], .inr ⟨h0, h1⟩⟩
  obtain ⟨A2, c2, rfl, hle2, _⟩ := own_reads_of_le (enc := fun x => Value.int .u32 x) (d := (0 : Int)) ho2
  have HLE2 := Lib.hid hle2
  have HOW2 := Lib.hid ho2
  have HRUN2 := Lib.hid hrun2
  have HM2 := Lib.hid hm2
  have HE2 := Lib.hid he2
  have HN2 := Lib.hid hn2
  have HF7 := Lib.hid hd7
  have hzm2 : os2.length ≤ 400 := by omega
  have HD7 := Lib.hid (HD6.out.by_ hk2 (Nat.ne_of_lt HDF.out))
  have HG7 := Lib.hid (HG6.out.by_ hk2 (Nat.ne_of_gt HFG.out))
  have HB7 := Lib.hid (HB6.out.trans (hk2.below (B := w.heap.size) HB6.out.size (fun k hk => by rw [hk]; exact HS3.out)))
  have HO17 := Lib.hid (hk2.own HOW1.out (fun k hk h0 => by have := own_base HOW1.out k hk; have := HFG.out; have := HG5.out.lt; omega))
  clear hle2 ho2 hk2 hrun2 hol2 hcs2 hend2 he2 hn2 hd7 hm2
  go_wp2_with fail
  refine (dec_fail HD7.out).mono ?_
  rintro en w8 ⟨rfl, hb8⟩
  have HF8 := Lib.hid (HF7.out.below hb8)
  have HG8 := Lib.hid (HG7.out.below hb8)
  have HO18 := Lib.hid ((own_reads' HO17.out).below hb8)
  have HOW18 := Lib.hid ((Kp.of_below hb8 : Kp (fun _ => False) w7 w8).own HO17.out (fun _ _ h => h))
  have HOW28 := Lib.hid ((Kp.of_below hb8 : Kp (fun _ => False) w7 w8).own HOW2.out (fun _ _ h => h))
  have HB8 := Lib.hid (HB7.out.trans (hb8.mono HB7.out.size))
  clear hb8
  by_cases he0 : e1 = 0
  · have hne : (e1 != 0) = false := by simp [he0]
    obtain ⟨g1, g2⟩ := HE1.out he0
    have HR1 : Hid (run cnx st0 (bytesOf a) = some (s1, os1)) := Lib.hid (by
      have h9 := HRUN1.out
      rw [g1, List.take_of_length_le (by rw [bytesOf_length]; omega)] at h9
      exact h9)
    have HPT : Hid (s1.pt = []) := Lib.hid (by simpa [ccut] using g2)
    clear he0 g1 g2
    go_upto_region 11 with fail
    go_cut [67] (fun v wr => ∃ β : Bool, v = .bool β ∧ (β = true → s1.pv = 64) ∧ w8 = wr)
    case first =>
      cases hl : os1.getLast? with
      | none =>
        obtain rfl : os1 = [] := List.getLast?_eq_none_iff.1 hl
        have hz0 : decide ((0 : Int) < 0) = false := by decide
        go_wp2_with fail
        all_goals go_meet
        all_goals exact ⟨_, rfl, (fun h => by cases h), rfl⟩
      | some c =>
        have hpos : 0 < os1.length := by
          rcases Nat.eq_zero_or_pos os1.length with h9 | h9
          · rw [List.eq_nil_of_length_eq_zero h9] at hl; cases hl
          · exact h9
        have hd0 : decide ((0 : Int) < (os1.length : Int)) = true := by simp; omega
        obtain ⟨ad, rfl, hc⟩ := HO18.out.at_ ((os1.length : Int) - 1) (by omega) (by omega)
        have hgl : rd os1 ((os1.length : Int) - 1) = c := by
          rw [rd, show ((os1.length : Int) - 1).toNat = os1.length - 1 by omega, List.getD_eq_getElem?_getD, ← List.getLast?_eq_getElem?, hl]; rfl
        rw [hgl, show ((os1.length : Int) - 1).toNat = os1.length - 1 by omega] at hc
        have hlst := run_last (bytesOf a) cok0 HR1.out c hl
        have HLST := Lib.hid hlst
        have hwl : IntKind.i64.wrap ((os1.length : Int) - 1) = (os1.length : Int) - 1 := wrap_small (by omega) (by omega)
        clear hl hgl hlst
        by_cases h32 : c < 32
        · have hd3 : decide (c < 32) = true := by simp; omega
          go_wp2_with fail
          all_goals go_meet
          all_goals exact ⟨_, rfl, fun _ => HLST.out h32, rfl⟩
        · have hd3 : decide (c < 32) = false := by simp; omega
          go_wp2_with fail
          all_goals go_meet
          all_goals exact ⟨_, rfl, (fun h => by cases h), rfl⟩
    case rest =>
      obtain ⟨β, rfl, hβ, rfl⟩ := hcut
      go_upto_if 67 with fail
      go_cut [12] (fun v wr => ∃ J : ByteArray, v = .string J ∧ (J = ⟨#[255]⟩ ∨ (J = ⟨#[]⟩ ∧ s1.pv = 64)) ∧ w8 = wr)
      case first =>
        cases β with
        | true =>
          go_wp2_with fail
          all_goals go_meet
          all_goals exact ⟨_, rfl, .inr ⟨rfl, by simpa using hβ⟩, rfl⟩
        | false =>
          go_wp2_with fail
          all_goals go_meet
          all_goals exact ⟨_, rfl, .inl rfl, rfl⟩
      case rest =>
        obtain ⟨J, rfl, hJ, rfl⟩ := hcut
        clear hβ
        have hJz : J.size ≤ 1 := by rcases hJ with rfl | ⟨rfl, _⟩ <;> decide
        have HJ := Lib.hid hJ
        have HJZ := Lib.hid hJz
        clear hJ
        have hcat1 : ¬ (9223372036854775807 < a.size + J.size) := by omega
        have hcat2 : ¬ (9223372036854775807 < a.size + J.size + b.size) := by omega
        have hcat3 : ¬ (9223372036854775807 < (a ++ J).size + b.size) := by rw [ByteArray.size_append]; omega
        have hj := joint_run HR1.out HPT.out HJ.out HM2.out HRUN2.out HN2.out
        have HJR := Lib.hid hj
        clear hj
        go_wp2_with fail
        refine (read_any (a ++ J ++ b) none none 0 0 0 0 [] [] st0 cok0 (by rw [ByteArray.size_append, ByteArray.size_append]; omega) (by omega) (by omega) (reads_nil _ _) (reads_nil _ _) none_ne none_ne HG8.out).mono ?_
        rintro en w9 h9
        obtain ⟨j1, j2, j3, j4⟩ := HJR.out
        obtain ⟨r9, s9, f9, d9, rfl, ho9, hk9, hl9, hd9⟩ := read_uniq h9 j1 j2 j3
        have he9 : (if a.size + J.size + m2 < (a ++ J ++ b).size then 3 else if ccut s2 = true then 4 else 0) = e2 := by
          rw [HE2.out]
          by_cases h8 : m2 < b.size
          · rw [if_pos h8, if_pos (j4.2 h8)]
          · rw [if_neg h8, if_neg (fun h7 => h8 (j4.1 h7))]
        rw [he9] at hd9
        have hlen : (os1 ++ os2).length = os1.length + os2.length := List.length_append
        rw [hlen] at ho9
        obtain ⟨A9, c9, rfl, hle9, _⟩ := own_reads_of_le (enc := fun x => Value.int .u32 x) (d := (0 : Int)) ho9
        have HLE9 := Lib.hid hle9
        have HO9 := Lib.hid (own_reads' ho9)
        have HG9 := Lib.hid hd9
        have HF9 := Lib.hid (HF8.out.by_ hk9 (Nat.ne_of_lt HFG.out))
        have HO19 := Lib.hid (own_reads' (hk9.own HOW18.out (fun k hk h0 => by have := own_base HOW18.out k hk; have := HG5.out.lt; omega)))
        have HO29 := Lib.hid (own_reads' (hk9.own HOW28.out (fun k hk h0 => by have := own_base HOW28.out k hk; have := HG6.out.lt; omega)))
        have HB9 := Lib.hid (HB8.out.trans (hk9.below (B := w.heap.size) HB8.out.size (fun k hk => by rw [hk]; exact HS4.out)))
        clear h9 j1 j2 j3 j4 he9 hlen ho9 hk9 hl9 hd9 hle9 HJR HO18
        go_wp2_with fail
        have HNIL : Hid (QRow (w9.alloc (.cells #[] 34)).drew w9.heap.size 34 1 (.slice (some ⟨w9.heap.size, 0, none⟩) 0 0) ([] : List Int).length (nums .u32 [])) := Lib.hid (q_of_own (own_lit w9.drew w9.heap.size 34 .u32 [] (Nat.le_refl _) (by simp)))
        have HO19A : Hid (ReadsInt (w9.alloc (.cells #[] 34)).drew .u32 A1 os1.length os1) := Lib.hid (HO19.out.below (((Kp.refl (fun _ => False) w9).alloc _).drew.below (Nat.le_refl _) (fun _ h => h.elim)))
        have HBA : Hid (Below w9.heap.size w9 (w9.alloc (.cells #[] 34)).drew) := Lib.hid (((Kp.refl (fun _ => False) w9).alloc _).drew.below (Nat.le_refl _) (fun _ h => h.elim))
        have hw1 : IntKind.i64.wrap ((a.size : Int) + (J.size : Int)) = (a.size : Int) + (J.size : Int) := wrap_small (by omega) (by omega)
        have hm2z := HM2.out
        have hw2 : IntKind.i64.wrap ((a.size : Int) + (J.size : Int) + (m2 : Int)) = (a.size : Int) + (J.size : Int) + (m2 : Int) := wrap_small (by omega) (by omega)
        have heqn : ((((a.size + J.size + m2 : Nat)) : Int) == (a.size : Int) + (J.size : Int) + (m2 : Int)) = true := by simp
        clear hm2z
        have HL12 : Hid (([] : List Int).length + os1.length ≤ 400 ∧ os1.length + os2.length ≤ 800) := Lib.hid ⟨by simp; omega, by omega⟩
        go_region_held_law (fun _ => True) (first | exact trivial) (first
          | (refine step_qapp w9.heap.size rfl (.tmp 81) (.tmp 82) 22 34 .u32 4 rfl Try.underlying22 infoU (by omega) (.slice (some ⟨w9.heap.size, 0, none⟩) 0 0) [] os1 A1 os1.length c1 rfl rfl HNIL.out HO19A.out HBA.out.size (by have := HL12.out; omega) ?_; intro v1 w10 hq1 hgr1 hat1; have HQ1 : Hid (QRow w10 w9.heap.size 34 1 v1 os1.length (nums .u32 os1)) := Lib.hid (by simpa using hq1); have HB10 : Hid (Below w9.heap.size w9 w10) := Lib.hid (HBA.out.trans ((Kp.of_grown (F := fun k => k = w9.heap.size) hgr1 (fun k hk => (Option.some.inj hk).symm)).below HBA.out.size (fun k hk => Nat.le_of_eq hk.symm))); have HAT1 : Hid (∀ k, v1.ownBlock = some k → w9.heap.size ≤ k) := Lib.hid (by intro k hk; rcases hat1 with h8 | ⟨b8, h8, h7⟩; (rw [h8] at hk; exact Nat.le_of_eq (Option.some.inj hk)); (rw [h8] at hk; obtain rfl := Option.some.inj hk; exact Nat.le_trans HBA.out.size h7)); clear hq1 hgr1 hat1)
          | (refine step_qapp w9.heap.size rfl (.tmp 83) (.tmp 84) 22 34 .u32 4 rfl Try.underlying22 infoU (by omega) v1 os1 os2 A2 os2.length c2 rfl rfl HQ1.out (HO29.out.below HB10.out) HB10.out.size (by have := HL12.out; omega) ?_; intro v2 w11 hq2 hgr2 _; have HB11 : Hid (Below w9.heap.size w9 w11) := Lib.hid (HB10.out.trans ((Kp.of_grown (F := fun k => v1.ownBlock = some k) hgr2 (fun k hk => hk)).below HB10.out.size HAT1.out)); have HG11 := Lib.hid (HG9.out.below HB11.out); have HF11 := Lib.hid (HF9.out.below HB11.out); obtain ⟨A11, c11, rfl, hnc11⟩ := q_slice hq2; have HQ2 := Lib.hid (q_reads hq2); have HNC := Lib.hid hnc11; clear hq2 hgr2 hnc11)
          | (go_simp; go_at_call 22; refine (same_any (w := w11) (l0 := os1 ++ os2) (l1 := os1 ++ os2) (HO9.out.below HB11.out) HQ2.out HLE9.out HNC.out (by have := HL12.out; omega)).mono ?_; rw [decide_eq_true rfl]; rintro e w12 ⟨rfl, n12, rfl⟩; have HB12 : Hid (Below w11.heap.size w11 (w11.drewN n12)) := Lib.hid ((((Kp.refl (fun _ => False) w11).drewN n12).below (Nat.le_refl _) (fun _ h => h.elim))); have HG12 := Lib.hid (HG11.out.below HB12.out); have HF12 := Lib.hid (HF11.out.below HB12.out); have HB912 := Lib.hid (HB11.out.trans (HB12.out.mono HB11.out.size)); generalize w11.drewN n12 = w12 at *)
          | (go_simp; go_at_call 23; (with_reducible refine (dec_fail HG12.out).mono ?_); rintro e w13 ⟨rfl, hb⟩; have HG13 := Lib.hid (HG12.out.below hb); have HF13 := Lib.hid (HF12.out.below hb); have HB913 := Lib.hid (HB912.out.trans (hb.mono HB912.out.size)); clear hb)
          | (go_simp; go_at_call 23; (with_reducible refine (dec_fail HF12.out).mono ?_); rintro e w13 ⟨rfl, hb⟩; have HG13 := Lib.hid (HG12.out.below hb); have HF13 := Lib.hid (HF12.out.below hb); have HB913 := Lib.hid (HB912.out.trans (hb.mono HB912.out.size)); clear hb)
          | (go_simp; go_at_call 23; (with_reducible refine (dec_fail HG13.out).mono ?_); rintro e w14 ⟨rfl, hb⟩; have HG14 := Lib.hid (HG13.out.below hb); have HF14 := Lib.hid (HF13.out.below hb); have HB914 := Lib.hid (HB913.out.trans (hb.mono HB913.out.size)); clear hb)
          | (go_simp; go_at_call 23; (with_reducible refine (dec_fail HF13.out).mono ?_); rintro e w14 ⟨rfl, hb⟩; have HG14 := Lib.hid (HG13.out.below hb); have HF14 := Lib.hid (HF13.out.below hb); have HB914 := Lib.hid (HB913.out.trans (hb.mono HB913.out.size)); clear hb)
          | (go_simp; go_at_call 25; (with_reducible refine (dec_at HG14.out).mono ?_); rintro e w15 ⟨rfl, rfl⟩)
          | (go_simp; go_at_call 25; (with_reducible refine (dec_at HF14.out).mono ?_); rintro e w15 ⟨rfl, rfl⟩)
          | (fail))
        all_goals (go_wp2_with fail; go_ret; exact ⟨rfl, HB9.out.trans (HB914.out.mono HB9.out.size)⟩)
  · have hne : (e1 != 0) = true := by simp [he0]
    clear he0
    go_wp2_with fail
    go_ret
    exact ⟨rfl, HB8.out⟩
theorem resets_all {w : World} (a b : ByteArray) :
    Calls Try.prog 9 #[.string a, .string b] w fun en w' => en = .returned (.bool true) ∧ Below w.heap.size w w' := by
  cases hg : (decide (400 < (a.size : Int)) || (decide (200 < 0) || decide (200 < 0)))
  · cases hg2 : (decide (400 < (b.size : Int)) || (decide (200 < 0) || decide (200 < 0)))
    · exact resets_walk a b hg hg2
    · exact resets_great2 a b w hg hg2
  · exact resets_great a b w hg
end Go.Proofs.Ythodifmfamflpaa
