/-
  The walk of bodkinlaw18.LexSpaces. Condition: the library's variable internal/bytealg.MaxLen holds a number.
-/
import Derived.Test.YtjecdciabpjgcaaDoorLxAd
import Derived.Test.YtjecdciabpjgcaaDoorLxO
import Derived.Test.YtjecdciabpjgcaaDoorLxR
import Derived.Test.YtjecdciabpjgcaaDoorLxZ
namespace Go.Proofs.YtjecdciabpjgcaaDoor.Lx
set_option linter.unusedVariables false
set_option linter.unusedSimpArgs false
open Go.RowKit Go.Proofs.YtjecdciabpjgcaaDoorW.PrintWords Go.Proofs.YtjecdciabpjgcaaDoorW.PrintLast Go.Proofs.YtjecdciabpjgcaaDoor.PLx Go.Proofs.YtjecdciabpjgcaaDoor.Lb

theorem row_cells1 {W : World} {base e : Nat} {v : Value} {ks : List Tok} (h : W.ownsRow base e 3 v ks.length (tcl ks)) : ∃ A c, v = .slice A ks.length c ∧ ∀ (i : Nat) (k : Tok), ks[i]? = some k → ∃ g, A = some ⟨g, 0, none⟩ ∧
    W.cell? ⟨g, i * 3, none⟩ = some (.int .i64 k.kind) ∧ W.cell? ⟨g, i * 3 + 1, none⟩ = some (.string ⟨k.text.toArray⟩) := by
  rcases own_form h with ⟨h0, rfl⟩ | ⟨g, c, rfl, _, _⟩
  · have : ks = [] := List.length_eq_zero_iff.1 h0
    subst this
    exact ⟨none, 0, rfl, fun i k hk => by simp at hk⟩
  · refine ⟨some ⟨g, 0, none⟩, c, rfl, fun i k hk => ⟨g, rfl, ?_⟩⟩
    have hh := fun j (hj : j < 3) => tcl_get ks i j k hk hj
    have hc := fun j u hu => h.cells (g := g) rfl j u hu
    have a0 := hc (i * 3 + 0) _ ((hh 0 (by omega)).trans rfl)
    have a1 := hc (i * 3 + 1) _ ((hh 1 (by omega)).trans rfl)
    rw [add_plain] at a0 a1
    exact ⟨a0, a1⟩
theorem cell_b1 {W wr : World} {p : Addr} {v : Value} (hb : Below W.heap.size W wr) (h : W.cell? p = some v) : wr.cell? p = some v := (hb.cell (World.block_lt_of_cell? _ _ h)).trans h
theorem ba_app1 (a b : List UInt8) : (⟨a.toArray⟩ : ByteArray) ++ ⟨b.toArray⟩ = ⟨(a ++ b).toArray⟩ := by
  apply ByteArray.ext
  simp
theorem ba_self1 (s : ByteArray) : (⟨s.data.toList.toArray⟩ : ByteArray) = s := by cases s; simp
theorem ba_data (l : List UInt8) : (⟨l.toArray⟩ : ByteArray).data.toList = l := by simp
theorem and3 (x : Int) : 0 ≤ Go.bits .and .i64 x 3 ∧ Go.bits .and .i64 x 3 ≤ 3 := by
  have h : (BitVec.ofInt 64 x &&& BitVec.ofInt 64 3).toNat ≤ 3 := by
    rw [BitVec.toNat_and]
    exact Nat.le_trans Nat.and_le_right (by decide)
  have e : Go.bits .and .i64 x 3 = IntKind.i64.wrap (((BitVec.ofInt 64 x &&& BitVec.ofInt 64 3).toNat : Nat) : Int) := rfl
  rw [e, IntWalk.i64_in _ (by omega)]
  omega
def kOf (n : Nat) (z : List Int) (i : Nat) : Nat := if i < n then (Go.bits .and .i64 (z.getD i 0) 3).toNat else 0
def jOf (n : Nat) (z : List Int) (i : Nat) : Nat := kOf n z i + i % 3
theorem kOf_lt (n : Nat) (z : List Int) (i : Nat) : kOf n z i ≤ 3 := by
  unfold kOf
  split
  · have := and3 (z.getD i 0); omega
  · omega
theorem jOf_lt (n : Nat) (z : List Int) (i : Nat) : jOf n z i < 6 := by
  have := kOf_lt n z i
  unfold jOf
  omega
def btO : Obj := .cells #[.string ⟨#[32]⟩, .string ⟨#[10]⟩, .string ⟨#[9, 13]⟩, .string ⟨#[32, 59, 59, 32, 120, 32, 40, 10]⟩, .string ⟨#[32, 40, 59, 32, 40, 59, 32, 59, 41, 32, 34, 32, 59, 41]⟩, .string ⟨#[32, 40, 59, 59, 41, 32]⟩] 9
theorem bt_cell (w : World) (g j : Nat) (h : w.heap[g]? = some btO) (hj : j < 6) : w.cell? ⟨g, j, none⟩ = some (.string ⟨(btw j).toArray⟩) := by
  have hj : j = 0 ∨ j = 1 ∨ j = 2 ∨ j = 3 ∨ j = 4 ∨ j = 5 := by omega
  rcases hj with rfl | rfl | rfl | rfl | rfl | rfl <;> exact (blk_cell h _).trans rfl
def SpsR (w W : World) (g : Nat) (ks : List Tok) (J : Nat → Nat) (T : List UInt8) (v9 v10 : Value) (wr : World) : Prop :=
  ∃ (i : Nat) (out : List UInt8), v10 = .int .i64 (i : Int) ∧ i ≤ ks.length ∧ v9 = .string ⟨out.toArray⟩ ∧ out ++ jn J i (ks.drop i) = T ∧ Below w.heap.size w wr ∧ Below W.heap.size W wr
def LtR1 (w W : World) (n : Nat) (v8 : Value) (wr : World) : Prop := ∃ i : Nat, v8 = .int .i64 (i : Int) ∧ i ≤ n ∧ Below w.heap.size w wr ∧ Below W.heap.size W wr
def numW : Value → Nat
  | .int _ n => n.toNat
  | _ => 0
set_option maxRecDepth 1000000 in
set_option maxHeartbeats 16000000 in
theorem spaces_row (s : ByteArray) (a1 : Option Addr) (len1 cap1 : Nat) (z1 : List Int) (w : World) (hsz : s.size ≤ 140737488351232)
    (hrow : (a1 = none ∧ len1 = 0 ∧ cap1 = 0 ∧ z1 = []) ∨ ∃ x, a1 = some x ∧ len1 ≤ cap1 ∧ cap1 ≤ maxLen ∧ z1.length = cap1 ∧ (∀ i, i < z1.length → w.cell? (x.add i) = some (.int .i64 (z1.getD i 0))) ∧ ∀ n ∈ z1, (Lit.int .i64 n).wf = true)
    (hl1 : len1 * 8 ≤ 140737488351232) (hm : ML w) : Calls Tryd.prog 6 #[.string s, .slice a1 len1 cap1] w fun e w' => e = .returned (.bool true) ∧ Below w.heap.size w w' := by
  have HM := Lib.hid hm
  have HZ : Hid (∀ i, i < len1 → ∃ x, a1 = some x ∧ w.cell? (x.add i) = some (.int .i64 (z1.getD i 0))) := Lib.hid (fun i hi => by
    rcases hrow with ⟨_, h0, _⟩ | ⟨x, hx, h1, h2, h3, h4, _⟩
    · omega
    · exact ⟨x, hx, h4 i (by omega)⟩)
  have hl2 : (len1 : Int) ≤ 140737488351232 := by omega
  clear hm hrow hl1
  go_enter Tryd.func6, Tryd.ntmps6
  go_wp2_with fail
  refine (awake_c w HM.out).mono ?_
  intro e w1 hq
  obtain ⟨he, hb⟩ := hq.out
  subst he
  have HB1 := Lib.hid hb
  have HM1 := Lib.hid (HM.out.below hb)
  clear hq hb HM
  by_cases h1 : 1000 < s.size
  · have h1' : 1000 < (s.size : Int) := by omega
    clear h1
    go_wp2
    go_ret
    exact ⟨rfl, HB1.out⟩
  · have h1' : (s.size : Int) ≤ 1000 := by omega
    have hs : s.size ≤ 1000000 := by omega
    have HT := Lib.hid (fun w hm => tokens_c s hs w hm)
    obtain ⟨R, hR⟩ : ∃ R, tokF s = R := ⟨_, rfl⟩
    rw [hR] at HT
    have HW : Hid (∀ ks, R = some ks → (∀ k ∈ ks, Wd k) ∧ txl ks ≤ 1000 ∧ ks.length ≤ 1000) := Lib.hid (fun ks h => by
      have := tokF_wd s ks (hR.trans h)
      exact ⟨this.1, by omega, by omega⟩)
    clear hR h1 hs
    go_wp2_with fail
    refine (HT.out w1 HM1.out).mono ?_
    intro e w2 hq
    obtain ⟨hb, hor⟩ := hq.out
    have HB2 := Lib.hid (below_step HB1.out hb)
    have HM2 := Lib.hid (HM1.out.below hb)
    clear hq hb HT HM1 HB1
    rcases hor with ⟨hn, he⟩ | ⟨ks, v, hks, he, ho⟩
    · subst he
      clear HW
      go_wp2
      go_ret
      exact ⟨rfl, HB2.out⟩
    · subst he
      obtain ⟨hwd, htx, hkl⟩ := HW.out ks hks
      obtain ⟨T, hT⟩ : ∃ T, jn (jOf len1 z1) 0 ks = T := ⟨_, rfl⟩
      obtain ⟨ks', hk1, hk2⟩ := tokF_jn (jOf len1 z1) (jOf_lt len1 z1) ks hwd
      have hTl : T.length ≤ 20000 := by rw [← hT]; have := jn_len (jOf len1 z1) (jOf_lt len1 z1) ks 0; omega
      rw [hT] at hk1
      have HTL := Lib.hid hTl
      have hsz2 : (⟨(T ++ endS).toArray⟩ : ByteArray).size ≤ 1000000 := by
        rw [size_arr, List.length_append]
        show T.length + 7 ≤ _
        omega
      have HT2 := Lib.hid (fun w hm => tokens_c ⟨(T ++ endS).toArray⟩ hsz2 w hm)
      rw [hk1] at HT2
      have hlen2 : ks'.length = ks.length := by have := congrArg List.length hk2; simpa using this
      have HK2 := Lib.hid hk2
      have HTX : Hid (∀ i k, ks[i]? = some k → Wd k ∧ k.text.length ≤ 1000) := Lib.hid (fun i k hk => by
        have hmem := List.mem_of_getElem? hk
        refine ⟨hwd k hmem, ?_⟩
        have : ∀ (l : List Tok), k ∈ l → k.text.length ≤ txl l := by
          intro l
          induction l with
          | nil => intro h; simp at h
          | cons x l ih =>
            intro h
            simp only [txl, List.map_cons, List.sum_cons] at ih ⊢
            rcases List.mem_cons.1 h with h | h
            · subst h; omega
            · have := ih h; omega
        have := this ks hmem
        omega)
      obtain ⟨A, c, hv, hA⟩ := row_cells1 ho
      subst hv
      have HA1 := Lib.hid hA
      obtain ⟨W, hW⟩ : ∃ W, W = w2.alloc btO := ⟨_, rfl⟩
      obtain ⟨g, hg⟩ : ∃ g, g = w2.heap.size := ⟨_, rfl⟩
      have HG : Hid (W.heap[g]? = some btO) := Lib.hid (by rw [hW, hg]; exact heap_alloc_new w2 _)
      have HBW : Hid (Below w.heap.size w W) := Lib.hid (by rw [hW]; exact HB2.out.alloc HB2.out.size _)
      have HB2W : Hid (Below w2.heap.size w2 W) := Lib.hid (by rw [hW]; exact (Below.refl _ _).alloc (Nat.le_refl _) _)
      have HMW : Hid (ML W) := Lib.hid (HM2.out.below HB2W.out)
      have HA : Hid (SpsR w W g ks (jOf len1 z1) T (.string ⟨#[]⟩) (.int .i64 0) W) := Lib.hid ⟨0, [], rfl, Nat.zero_le _, rfl, by simpa using hT, HBW.out, Below.refl _ _⟩
      clear hA ho hks HW hwd htx hT hk1 hk2 hTl hsz2
      go_upto_region 11 with fail
      have hbt : w2.alloc (Obj.cells #[.string ⟨#[32]⟩, .string ⟨#[10]⟩, .string ⟨#[9, 13]⟩, .string ⟨#[32, 59, 59, 32, 120, 32, 40, 10]⟩, .string ⟨#[32, 40, 59, 32, 40, 59, 32, 59, 41, 32, 34, 32, 59, 41]⟩, .string ⟨#[32, 40, 59, 59, 41, 32]⟩] 9) = W := hW.symm
      rw [hbt, ← hg]
      clear hbt hW hg
      obtain ⟨n, hn⟩ : ∃ n, ks.length = n := ⟨_, rfl⟩
      have HN := Lib.hid hn
      have hn0 : (n : Int) ≤ 1000 := by omega
      have HJ : Hid (∀ i, jOf len1 z1 i = kOf len1 z1 i + i % 3) := Lib.hid (fun i => rfl)
      rw [hn] at hlen2 ⊢
      clear hn hkl
      go_wp2
      go_loopw [9, 10] (SpsR w W g ks (jOf len1 z1) T) (fun _ v10 _ => n - numW v10)
      case atStart => exact HA.out
      case round =>
        obtain ⟨i, out, rfl, hi, rfl, hc, hb, hb2⟩ := hrel
        rw [HN.out] at hi
        have HBR := Lib.hid hb
        have HBW2 := Lib.hid hb2
        have HC := Lib.hid hc
        have hi0 : 0 ≤ (i : Int) := by omega
        clear hb hb2 hc HA
        by_cases hlt : i < n
        · have hlt' : (i : Int) < (n : Int) := by omega
          obtain ⟨k, hk⟩ : ∃ k, ks[i]? = some k := ⟨ks[i]'(by have := HN.out; omega), List.getElem?_eq_getElem _⟩
          obtain ⟨hwd, htl⟩ := HTX.out i k hk
          obtain ⟨g1, hg1, a0, a1⟩ := HA1.out i k hk
          subst hg1
          replace a0 := cell_b1 HBW2.out (cell_b1 HB2W.out a0)
          replace a1 := cell_b1 HBW2.out (cell_b1 HB2W.out a1)
          obtain ⟨q, hq⟩ : ∃ q, kOf len1 z1 i = q := ⟨_, rfl⟩
          have hq3 : q ≤ 3 := by rw [← hq]; exact kOf_lt _ _ _
          have hj : jOf len1 z1 i = q + i % 3 := by rw [HJ.out, hq]
          have hnext : Hid ((out ++ (btw (q + i % 3) ++ wrd k)) ++ jn (jOf len1 z1) (i + 1) (ks.drop (i + 1)) = T) := Lib.hid (by
            have h := HC.out
            have hi2 : i < ks.length := by have := HN.out; omega
            rw [List.drop_eq_getElem_cons hi2] at h
            have : ks[i] = k := by rw [List.getElem?_eq_getElem hi2] at hk; exact Option.some.inj hk
            rw [this] at h
            rw [← h, ← hj]
            show _ = out ++ (btw (jOf len1 z1 i) ++ wrd k ++ jn (jOf len1 z1) (i + 1) (ks.drop (i + 1)))
            simp only [List.append_assoc])
          obtain ⟨r, hr⟩ : ∃ r, i % 3 = r := ⟨_, rfl⟩
          have hr3 : r < 3 := by omega
          have hrem : (i : Int).tmod 3 = (r : Int) := by rw [Int.tmod_eq_emod_of_nonneg hi0]; omega
          have hrem2 : (i : Int) % 3 = (r : Int) := by omega
          rw [hr] at hnext
          have b0 := cell_b1 HBW2.out (bt_cell W g (q + r) HG.out (by omega))
          have hqr : (q : Int) + (r : Int) < 6 := by omega
          have hqr0 : 0 ≤ (q : Int) + (r : Int) := by omega
          have hqrn : ((q : Int) + (r : Int)).toNat = q + r := by omega
          have hwrap : IntKind.i64.wrap ((q : Int) + (r : Int)) = (q : Int) + (r : Int) := IntWalk.i64_in _ (by omega)
          have HQT := Lib.hid (fun w => refQuote_c ⟨k.text.toArray⟩ (by rw [size_arr]; omega) w)
          rw [ba_data] at HQT
          obtain ⟨K, hK⟩ : ∃ K, k.kind = K := ⟨_, rfl⟩
          obtain ⟨tx, htx⟩ : ∃ tx, k.text = tx := ⟨_, rfl⟩
          rw [hK] at a0
          rw [htx] at a1 HQT
          have hwrd : wrd k = if K = 3 then quo tx else tx := by unfold wrd; rw [hK, htx]
          rw [hwrd] at hnext
          have htxl : tx.length ≤ 1000 := by rw [← htx]; exact htl
          have hwlq : (quo tx).length ≤ 3002 := by
            have h : (tx.flatMap quo1).length ≤ 3 * tx.length := by
              generalize tx = l
              induction l with
              | nil => simp
              | cons c l ih =>
                have : (quo1 c).length ≤ 3 := by unfold quo1; split <;> simp
                rw [List.flatMap_cons, List.length_append, List.length_cons]
                omega
            unfold quo
            simp only [List.length_append, List.length_singleton]
            omega
          clear hj hr hk hwd htl HTX HA1 HJ hwrd hK htx hlt
          by_cases hlen : i < len1
          · have hlen' : (i : Int) < (len1 : Int) := by omega
            obtain ⟨x, hx, hz⟩ := HZ.out i hlen
            subst hx
            have z0 := cell_b1 HBR.out hz
            have hand : Go.bits .and .i64 (z1.getD i 0) 3 = (q : Int) := by
              rw [← hq]
              unfold kOf
              rw [if_pos hlen]
              have := and3 (z1.getD i 0)
              omega
            generalize z1.getD i 0 = zi at *
            clear hq HZ hlen hz HC
            by_cases h3 : K = 3
            · subst h3
              rw [if_pos rfl] at hnext
              have hc1 := ba_app1 (btw (q + r)) (quo tx)
              have hc2 := ba_app1 out (btw (q + r) ++ (quo tx))
              have hs1 : (⟨(btw (q + r)).toArray⟩ : ByteArray).size = (btw (q + r)).length := size_arr _
              have hs2 : (⟨((quo tx)).toArray⟩ : ByteArray).size = ((quo tx)).length := size_arr _
              have hs3 : (⟨out.toArray⟩ : ByteArray).size = out.length := size_arr _
              have hs4 : (⟨(btw (q + r) ++ (quo tx)).toArray⟩ : ByteArray).size = (btw (q + r)).length + ((quo tx)).length := by rw [size_arr, List.length_append]
              have hb1 := (btw_pos (q + r) (by omega)).2
              have hol : out.length ≤ 20000 := by
                have h := congrArg List.length hnext.out
                have h2 := HTL.out
                rw [← h] at h2
                simp only [List.length_append] at h2
                omega
              have hwl : ((quo tx)).length ≤ 3002 := hwlq
              go_wp2_with (go_at_call 17; refine (HQT.out _).mono ?_; intro e w4 hq; obtain ⟨he, hb⟩ := hq.out; subst he; have HBR2 := Lib.hid (below_step HBR.out hb); have HBW3 := Lib.hid (below_step HBW2.out hb); replace b0 := cell_b1 hb b0; clear hq hb)
              go_roundw
              case rel => exact ⟨i + 1, out ++ (btw (q + r) ++ quo tx), by push_cast; rfl, by have := HN.out; omega, rfl, hnext.out, HBR2.out, HBW3.out⟩
              case measure => simp only [numW]; omega
            · rw [if_neg h3] at hnext
              have q3 : (K == 3) = false := by simpa using h3
              have hc1 := ba_app1 (btw (q + r)) tx
              have hc2 := ba_app1 out (btw (q + r) ++ tx)
              have hs1 : (⟨(btw (q + r)).toArray⟩ : ByteArray).size = (btw (q + r)).length := size_arr _
              have hs2 : (⟨(tx).toArray⟩ : ByteArray).size = (tx).length := size_arr _
              have hs3 : (⟨out.toArray⟩ : ByteArray).size = out.length := size_arr _
              have hs4 : (⟨(btw (q + r) ++ tx).toArray⟩ : ByteArray).size = (btw (q + r)).length + (tx).length := by rw [size_arr, List.length_append]
              have hb1 := (btw_pos (q + r) (by omega)).2
              have hol : out.length ≤ 20000 := by
                have h := congrArg List.length hnext.out
                have h2 := HTL.out
                rw [← h] at h2
                simp only [List.length_append] at h2
                omega
              have hwl : (tx).length ≤ 3002 := by omega
              clear HQT
              go_wp2
              go_roundw
              case rel => exact ⟨i + 1, out ++ (btw (q + r) ++ tx), by push_cast; rfl, by have := HN.out; omega, rfl, hnext.out, HBR.out, HBW2.out⟩
              case measure => simp only [numW]; omega
          · have hlen' : (len1 : Int) ≤ (i : Int) := by omega
            have hq0 : q = 0 := by rw [← hq]; unfold kOf; rw [if_neg hlen]
            subst hq0
            rw [Nat.zero_add] at b0 hnext
            have hqr2 : (r : Int) < 6 := by omega
            clear hq HZ hlen HC
            by_cases h3 : K = 3
            · subst h3
              rw [if_pos rfl] at hnext
              have hc1 := ba_app1 (btw r) (quo tx)
              have hc2 := ba_app1 out (btw r ++ (quo tx))
              have hs1 : (⟨(btw r).toArray⟩ : ByteArray).size = (btw r).length := size_arr _
              have hs2 : (⟨((quo tx)).toArray⟩ : ByteArray).size = ((quo tx)).length := size_arr _
              have hs3 : (⟨out.toArray⟩ : ByteArray).size = out.length := size_arr _
              have hs4 : (⟨(btw r ++ (quo tx)).toArray⟩ : ByteArray).size = (btw r).length + ((quo tx)).length := by rw [size_arr, List.length_append]
              have hb1 := (btw_pos r (by omega)).2
              have hol : out.length ≤ 20000 := by
                have h := congrArg List.length hnext.out
                have h2 := HTL.out
                rw [← h] at h2
                simp only [List.length_append] at h2
                omega
              have hwl : ((quo tx)).length ≤ 3002 := hwlq
              go_wp2_with (go_at_call 17; refine (HQT.out _).mono ?_; intro e w4 hq; obtain ⟨he, hb⟩ := hq.out; subst he; have HBR2 := Lib.hid (below_step HBR.out hb); have HBW3 := Lib.hid (below_step HBW2.out hb); replace b0 := cell_b1 hb b0; clear hq hb)
              go_roundw
              case rel => exact ⟨i + 1, out ++ (btw r ++ quo tx), by push_cast; rfl, by have := HN.out; omega, rfl, hnext.out, HBR2.out, HBW3.out⟩
              case measure => simp only [numW]; omega
            · rw [if_neg h3] at hnext
              have q3 : (K == 3) = false := by simpa using h3
              have hc1 := ba_app1 (btw r) tx
              have hc2 := ba_app1 out (btw r ++ tx)
              have hs1 : (⟨(btw r).toArray⟩ : ByteArray).size = (btw r).length := size_arr _
              have hs2 : (⟨(tx).toArray⟩ : ByteArray).size = (tx).length := size_arr _
              have hs3 : (⟨out.toArray⟩ : ByteArray).size = out.length := size_arr _
              have hs4 : (⟨(btw r ++ tx).toArray⟩ : ByteArray).size = (btw r).length + (tx).length := by rw [size_arr, List.length_append]
              have hb1 := (btw_pos r (by omega)).2
              have hol : out.length ≤ 20000 := by
                have h := congrArg List.length hnext.out
                have h2 := HTL.out
                rw [← h] at h2
                simp only [List.length_append] at h2
                omega
              have hwl : (tx).length ≤ 3002 := by omega
              clear HQT
              go_wp2
              go_roundw
              case rel => exact ⟨i + 1, out ++ (btw r ++ tx), by push_cast; rfl, by have := HN.out; omega, rfl, hnext.out, HBR.out, HBW2.out⟩
              case measure => simp only [numW]; omega
        · have hin : i = n := by omega
          subst hin
          have hoT : out = T := by
            have h := HC.out
            have hd : ks.drop i = [] := List.drop_of_length_le (Nat.le_of_eq HN.out)
            rw [hd] at h
            have h2 : out ++ [] = T := h
            rwa [List.append_nil] at h2
          subst hoT
          have happ : (⟨out.toArray⟩ : ByteArray) ++ ⟨#[32, 59, 59, 32, 101, 110, 100]⟩ = ⟨(out ++ endS).toArray⟩ := ba_app1 out endS
          have hs3 : (⟨out.toArray⟩ : ByteArray).size = out.length := size_arr _
          have hol : out.length ≤ 20000 := HTL.out
          have HMR := Lib.hid (HMW.out.below HBW2.out)
          clear HC HTX HG hlt HZ HMW HJ
          go_wp2_with fail
          refine (HT2.out _ HMR.out).mono ?_
          intro e w3 hq
          obtain ⟨hb, hor⟩ := hq.out
          have HB3 := Lib.hid (below_step HBR.out hb)
          have HBB := Lib.hid hb
          clear hq hb HT2 HMR
          rcases hor with ⟨hn, _⟩ | ⟨ks2, v, hks, he, ho⟩
          · cases hn
          · have e1 : ks2 = ks' := (Option.some.inj hks).symm
            subst e1
            subst he
            obtain ⟨B, d, hv, hB⟩ := row_cells1 ho
            subst hv
            have HA2 := Lib.hid hB
            have HAA : Hid (LtR1 w w3 i (.int .i64 0) w3) := Lib.hid ⟨0, rfl, Nat.zero_le _, HB3.out, Below.refl _ _⟩
            rw [hlen2]
            clear hB ho hks
            go_wp2
            go_loopw [15] (LtR1 w w3 i) (fun v8 _ => i - numW v8)
            case atStart => exact HAA.out
            case round =>
              obtain ⟨j, rfl, hj, hb, hb2⟩ := hrel
              have HB4 := Lib.hid hb
              have HB5 := Lib.hid hb2
              have hj0 : 0 ≤ (j : Int) := by omega
              clear hb hb2 HAA hs3 hol happ
              by_cases hlt : j < i
              · have hlt' : (j : Int) < (i : Int) := by omega
                obtain ⟨k, hk⟩ : ∃ k, ks[j]? = some k := ⟨ks[j]'(by have := HN.out; omega), List.getElem?_eq_getElem _⟩
                obtain ⟨k', hk'⟩ : ∃ k, ks2[j]? = some k := ⟨ks2[j]'(by omega), List.getElem?_eq_getElem _⟩
                have hkt : kt k' = kt k := by
                  have h := congrArg (fun l : List (Int × List UInt8) => l[j]?) HK2.out
                  simp only [List.getElem?_map, hk, hk', Option.map_some, Option.some.injEq] at h
                  exact h
                obtain ⟨g1, hg1, a0, a1⟩ := HA1.out j k hk
                obtain ⟨g2, hg2, b0, b1⟩ := HA2.out j k' hk'
                subst hg1
                subst hg2
                have hk1 : k'.kind = k.kind := congrArg Prod.fst hkt
                have hk2 : k'.text = k.text := congrArg Prod.snd hkt
                rw [hk1] at b0
                rw [hk2] at b1
                replace a0 := cell_b1 HB5.out (cell_b1 HBB.out (cell_b1 HBW2.out (cell_b1 HB2W.out a0)))
                replace a1 := cell_b1 HB5.out (cell_b1 HBB.out (cell_b1 HBW2.out (cell_b1 HB2W.out a1)))
                replace b0 := cell_b1 HB5.out b0
                replace b1 := cell_b1 HB5.out b1
                clear hk hk' hkt hk1 hk2 HA1 HA2 HN
                go_wp2
                go_quiet (fail)
                go_wp2
                go_roundw
                case rel => exact ⟨j + 1, by push_cast; rfl, by omega, pw_below_drewN HB4.out _, pw_below_drewN HB5.out _⟩
                case measure => simp only [numW]; omega
              · have hge : (i : Int) ≤ (j : Int) := by omega
                clear HA1 HA2
                go_wp2
                go_ret
                exact ⟨rfl, HB4.out⟩
end Go.Proofs.YtjecdciabpjgcaaDoor.Lx
