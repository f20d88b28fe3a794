/- The walk of the reference's Note. -/
import Derived.Test.YtejipmkbjmcnaaaDoorTuneRF
import Derived.Test.YtejipmkbjmcnaaaDoorTuneX
import Derived.Test.YtejipmkbjmcnaaaDoorTuneH
set_option linter.unusedVariables false
set_option maxRecDepth 100000
set_option maxHeartbeats 2000000
namespace Go.Proofs.YtejipmkbjmcnaaaDoor
open Go.RowKit Go.Shelf
attribute [local go_sem ↓] lt_alloc

theorem wpList_append_seen {P : Program} (W : World) {ops : Array Oper} {rest : List Oper} {o : Oper} {a : Act} {Q : Exit → Act → World → Prop} (hgd : o.guard = none) (s x : Operand) (t : TypeId)
    (ho : o.op = .call { callee := .builtin .append, args := #[s, x], argTypes := #[t, t] })
    (base : Nat) (e : TypeId) (i : TypeInfo) (u0 : Value) (bytes : Nat) (ht : P.underlying t = some (.slice e)) (hi : P.info? e = some i) (hz : i.zero = some u0) (hsize : i.size = 3) (hby : i.bytes = bytes) (hzs : u0.cells.size = 3)
    (v : Value) (n : Nat) (l : List Sn) (ky : ByteArray) (z m : Int) (hs : a.eval s = v) (hx : a.eval x = .slice (some ⟨W.heap.size, 0, none⟩) 1 1) (hown : W.ownsRow base e 3 v n (cellsW l))
    (hn : n + 1 ≤ 1000000) (hb : bytes ≤ 1000) (hbase : base ≤ W.heap.size)
    (h : ∀ v' w', GrewR e 3 base W w' v v' (n + 1) (cellsW (l ++ [⟨ky, z, m⟩])) → wpList P ops Q rest (a.put o.dst v') w') : wpList P ops Q (o :: rest) a (W.alloc (.cells #[.string ky, .int .i64 z, .int .i64 m] e)) := by
  refine wpList_plain hgd fun K hK => ?_
  obtain ⟨v', w', hr, h2⟩ := grew_one (P := P) (W := W) base t o.type e i u0 3 bytes ht hi hz hsize hby hzs (by decide) v n _ hown (cellsS ⟨ky, z, m⟩) rfl (by intro u hu; simp [cellsS] at hu; rcases hu with rfl | rfl | rfl <;> rfl) hn hb hbase
  have hcat : cellsW l ++ cellsS ⟨ky, z, m⟩ = cellsW (l ++ [⟨ky, z, m⟩]) := by rw [cellsW_append]; rfl
  rw [hcat] at h2
  have hr' : (Builtin.append_ #[t, t] o.type #[v, .slice (some ⟨W.heap.size, 0, none⟩) 1 1]).run P (W.alloc (.cells #[.string ky, .int .i64 z, .int .i64 m] e)) = .ok v' w' := hr
  unfold Oper.wp execOp
  simp only [ho, resolve, invoke, builtin, Sem.run_bind, Sem.run_pure, Result.andThen_ok, List.map_toArray, List.map_cons, List.map_nil, hs, hx, hr']
  exact hK _ _ (h v' w' h2)
def loF (l : List Sn) (key : ByteArray) (i : Nat) : List Sn := (l.take i).filter fun s => ltB s.key key
def hiF (l : List Sn) (key : ByteArray) (i : Nat) : List Sn := (l.take i).filter fun s => ltB key s.key
def nxF (l : List Sn) (key : ByteArray) (i : Nat) : Int := nxtN key (l.take i) 1
theorem take_snoc {l : List Sn} {i : Nat} (h : i < l.length) : l.take (i + 1) = l.take i ++ [wAt l i] := by
  rw [List.take_add_one, wAt_get h]; rfl
theorem loF_succ {l : List Sn} {key : ByteArray} {i : Nat} (h : i < l.length) : loF l key (i + 1) = loF l key i ++ if ltB (wAt l i).key key = true then [wAt l i] else [] := by
  unfold loF; rw [take_snoc h, List.filter_append]; congr 1; rw [List.filter_cons]; rfl
theorem hiF_succ {l : List Sn} {key : ByteArray} {i : Nat} (h : i < l.length) : hiF l key (i + 1) = hiF l key i ++ if ltB key (wAt l i).key = true then [wAt l i] else [] := by
  unfold hiF; rw [take_snoc h, List.filter_append]; congr 1; rw [List.filter_cons]; rfl
theorem nxtN_append {key : ByteArray} : ∀ (l : List Sn) (k : List Sn) (n : Int), nxtN key (l ++ k) n = nxtN key k (nxtN key l n)
  | [], _, _ => rfl
  | s :: l, k, n => by rw [List.cons_append, nxtN, nxtN]; exact nxtN_append l k _
theorem nxF_succ {l : List Sn} {key : ByteArray} {i : Nat} (h : i < l.length) : nxF l key (i + 1) = if eqB (wAt l i).key key = true then (wAt l i).n + 1 else nxF l key i := by
  unfold nxF; rw [take_snoc h, nxtN_append]; rfl
theorem loF_le (l : List Sn) (key : ByteArray) (i : Nat) : (loF l key i).length ≤ i := by
  unfold loF; exact Nat.le_trans (List.length_filter_le ..) (by rw [List.length_take]; omega)
theorem hiF_le (l : List Sn) (key : ByteArray) (i : Nat) : (hiF l key i).length ≤ i := by
  unfold hiF; exact Nat.le_trans (List.length_filter_le ..) (by rw [List.length_take]; omega)
theorem putW_F {l : List Sn} {key : ByteArray} {size : Int} {n : Nat} (h : l.length = n) : putW l key size = (loF l key n ++ [⟨key, size, nxF l key n⟩]) ++ hiF l key n := by
  unfold putW loF hiF nxF
  rw [← h, List.take_length, List.append_assoc]; rfl
def OwnS (base : Nat) (W : World) (v : Value) (l : List Sn) : Prop := W.ownsRow base 25 3 v l.length (cellsW l)
theorem OwnS.below {base : Nat} {w w' : World} {v : Value} {l : List Sn} (h : OwnS base w v l) (hb : Below w.heap.size w w') : OwnS base w' v l := own_below h hb
theorem grewS {base : Nat} {W w' : World} {v v' : Value} {l : List Sn} {s : Sn} (h : GrewR 25 3 base W w' v v' (l.length + 1) (cellsW (l ++ [s]))) : OwnS base w' v' (l ++ [s]) := by
  have h := h.own
  unfold OwnS
  rw [List.length_append]; exact h
theorem ref21_Note {a : Option Addr} {n cap : Nat} {l : List Sn} {key : ByteArray} {size : Int} (hn : l.length = n) (hnc : n ≤ cap) (w : World) (iW : IsW w a l) :
    Calls Tryd.prog 16 #[.slice a n cap, .string key, .int .i64 size] w (NoteEnd w (noteW l key size)) := by
  have k1 := fun w iW => ref21_Check (a := a) (cap := cap) hn w iW
  have IW := Lib.hid iW
  by_cases hmay : mayW l
  · rw [decide_eq_true hmay] at k1
    have hno : noteW l key size = if mayW (putW l key size) then putW l key size else l := by
      unfold noteW
      rw [rawW_put hmay]
      by_cases h : mayW (putW l key size)
      · rw [if_pos ⟨hmay, h⟩, if_pos h]
      · rw [if_neg (fun hh => h hh.2), if_neg h]
    have HNO := Lib.hid hno
    have HPF := Lib.hid (putW_F (key := key) (size := size) hn)
    have HN := Lib.hid hn
    have HMAY := Lib.hid hmay
    have hm : n ≤ 1000 := by rw [← hn]; exact hmay.1
    obtain ⟨ti, ti1, ti2, ti3, ti4⟩ := info_parts seen_info
    clear hn iW hmay hno
    have hnx : ∀ i, i ≤ n → 1 ≤ nxF l key i ∧ nxF l key i ≤ 1001 := by
      intro i
      induction i with
      | zero => intro _; exact ⟨Int.le_refl _, by show (1 : Int) ≤ _; omega⟩
      | succ i ih =>
        intro h
        rw [nxF_succ (by rw [HN.out]; omega)]
        have := (HMAY.out.2 i (by rw [HN.out]; omega)).1
        unfold okNum at this
        have := ih (by omega)
        split <;> omega
    have HNX := Lib.hid hnx
    clear hnx
    go_enter Tryd.func16, Tryd.ntmps16
    go_wp2_with fail
    refine (k1 _ IW.out).mono ?_
    rintro e w1 ⟨rfl, hb⟩
    have HB1 := Lib.hid hb
    clear hb k1
    go_wp2_with fail
    go_loopw [8, 9, 10] (fun ov nv iv W => ∃ i : Nat, i ≤ n ∧ iv = .int .i64 i ∧ nv = .int .i64 (nxF l key i) ∧ OwnS w.heap.size W ov (loF l key i) ∧ Below w.heap.size w W) (fun _ _ iv _ => n - (intOf iv).toNat)
    case atStart => exact ⟨0, Nat.zero_le _, rfl, rfl, World.ownsRow_nil _ _ _ _, HB1.out⟩
    case round =>
      obtain ⟨i, hi, rfl, rfl, hO, hB⟩ := hrel
      have HO := Lib.hid hO
      clear hO
      by_cases hlt : i < n
      · obtain ⟨ab, ao, rfl, h63, q0, q1, q2⟩ := (IW.out.below hB).row (i := i) (by rw [HN.out]; exact hlt)
        rw [HN.out] at h63
        have HL := Lib.hid (loF_succ (l := l) (key := key) (i := i) (by rw [HN.out]; exact hlt))
        have HX := Lib.hid (nxF_succ (l := l) (key := key) (i := i) (by rw [HN.out]; exact hlt))
        have hle := loF_le l key i
        have hx1 := HNX.out (i + 1) hlt
        have ltd : ltB (wAt l i).key key = Op.bytesLess (wAt l i).key.toList key.toList := rfl
        have eqd : eqB (wAt l i).key key = ((wAt l i).key.toList == key.toList) := rfl
        have LTD := Lib.hid ltd
        have EQD := Lib.hid eqd
        clear ltd eqd
        have ROW := Lib.hid (show ∀ W, Below w.heap.size w W → W.cell? ⟨ab, ao + i * 3, none⟩ = some (.string (wAt l i).key) ∧ W.cell? ⟨ab, ao + i * 3 + 2, none⟩ = some (.int .i64 (wAt l i).n) from fun W hb => by
          obtain ⟨ab', ao', hh, _, s0, s1, s2⟩ := (IW.out.below hb).row (i := i) (by rw [HN.out]; exact hlt)
          cases hh
          exact ⟨s0, s2⟩)
        generalize hk : (wAt l i).key = k at *
        generalize hz : (wAt l i).size = z at *
        generalize hmm : (wAt l i).n = m at *
        have HW := Lib.hid (show wAt l i = ⟨k, z, m⟩ by rw [← hk, ← hz, ← hmm])
        clear hk hz hmm
        cases hlt2 : Op.bytesLess k.toList key.toList with
        | true =>
          rw [LTD.out.trans hlt2, if_pos rfl, HW.out] at HL
          cases heq : (k.toList == key.toList) with
          | true =>
            rw [EQD.out.trans heq, if_pos rfl] at HX
            rw [HX.out] at hx1
            go_wp2_with (at_builtin; refine wpList_append_seen wr rfl _ _ _ rfl w.heap.size 25 ti _ 32 (by kernel_rfl) ti1 ti2 ti3 ti4 rfl u8 _ (loF l key i) k z m rfl rfl HO.out (by omega) (by decide) hB.size ?_; intro v1 W1 g1; have HO1 := Lib.hid (grewS g1); have HB2 := Lib.hid (hB.trans (g1.below HO.out hB.size)); clear g1; have q3 := (ROW.out W1 HB2.out).1; have q4 := (ROW.out W1 HB2.out).2)
            exact ⟨⟨i + 1, by omega, by go_num, by rw [HX.out], by rw [HL.out]; exact HO1.out, HB2.out⟩, by simp [intOf]; omega⟩
          | false =>
            rw [EQD.out.trans heq, if_neg (by decide)] at HX
            go_wp2_with (at_builtin; refine wpList_append_seen wr rfl _ _ _ rfl w.heap.size 25 ti _ 32 (by kernel_rfl) ti1 ti2 ti3 ti4 rfl u8 _ (loF l key i) k z m rfl rfl HO.out (by omega) (by decide) hB.size ?_; intro v1 W1 g1; have HO1 := Lib.hid (grewS g1); have HB2 := Lib.hid (hB.trans (g1.below HO.out hB.size)); clear g1; have q3 := (ROW.out W1 HB2.out).1; have q4 := (ROW.out W1 HB2.out).2)
            exact ⟨⟨i + 1, by omega, by go_num, by rw [HX.out], by rw [HL.out]; exact HO1.out, HB2.out⟩, by simp [intOf]; omega⟩
        | false =>
          rw [LTD.out.trans hlt2, if_neg (by decide), List.append_nil] at HL
          cases heq : (k.toList == key.toList) with
          | true =>
            rw [EQD.out.trans heq, if_pos rfl] at HX
            rw [HX.out] at hx1
            go_wp2_with fail
            exact ⟨⟨i + 1, by omega, by go_num, by rw [HX.out], by rw [HL.out]; exact HO.out, hB⟩, by simp [intOf]; omega⟩
          | false =>
            rw [EQD.out.trans heq, if_neg (by decide)] at HX
            go_wp2_with fail
            exact ⟨⟨i + 1, by omega, by go_num, by rw [HX.out], by rw [HL.out]; exact HO.out, hB⟩, by simp [intOf]; omega⟩
      · obtain rfl : n = i := by omega
        have hle := loF_le l key n
        have HPF2 := HPF
        generalize hx : nxF l key n = x at *
        generalize hlo : loF l key n = lo at *
        clear hx hlo
        go_wp2_with (at_builtin; refine wpList_append_seen wr rfl _ _ _ rfl w.heap.size 25 ti _ 32 (by kernel_rfl) ti1 ti2 ti3 ti4 rfl u8 _ lo key size x rfl rfl HO.out (by omega) (by decide) hB.size ?_; intro v1 W1 g1; have HO1 := Lib.hid (grewS g1); have HB2 := Lib.hid (hB.trans (g1.below HO.out hB.size)); clear g1)
        have hml : (lo ++ [(⟨key, size, x⟩ : Sn)]).length ≤ n + 1 := by rw [List.length_append]; show lo.length + 1 ≤ n + 1; omega
        have HML := Lib.hid hml
        clear hml
        generalize hmid : lo ++ [(⟨key, size, x⟩ : Sn)] = mid at *
        go_loopw [8, 11] (fun ov iv W => ∃ i : Nat, i ≤ n ∧ iv = .int .i64 i ∧ OwnS w.heap.size W ov (mid ++ hiF l key i) ∧ Below w.heap.size w W) (fun _ iv _ => n - (intOf iv).toNat)
        case atStart => exact ⟨0, Nat.zero_le _, rfl, by rw [show hiF l key 0 = [] from rfl, List.append_nil]; exact HO1.out, HB2.out⟩
        case round =>
          obtain ⟨i, hi, rfl, hO2, hB3⟩ := hrel
          have HO2 := Lib.hid hO2
          clear hO2
          by_cases hlt : i < n
          · obtain ⟨ab, ao, rfl, h63, q0, q1, q2⟩ := (IW.out.below hB3).row (i := i) (by rw [HN.out]; exact hlt)
            rw [HN.out] at h63
            have HL := Lib.hid (hiF_succ (l := l) (key := key) (i := i) (by rw [HN.out]; exact hlt))
            have hle2 : (mid ++ hiF l key i).length ≤ n + 1 + i := by rw [List.length_append]; have := hiF_le l key i; have := HML.out; omega
            have ltd : ltB key (wAt l i).key = Op.bytesLess key.toList (wAt l i).key.toList := rfl
            have LTD := Lib.hid ltd
            clear ltd
            generalize hk : (wAt l i).key = k at *
            generalize hz : (wAt l i).size = z at *
            generalize hmm : (wAt l i).n = m at *
            have HW := Lib.hid (show wAt l i = ⟨k, z, m⟩ by rw [← hk, ← hz, ← hmm])
            clear hk hz hmm
            cases h1 : Op.bytesLess k.toList key.toList with
            | true =>
              rw [ltB_asymm (show ltB k key = true from h1), if_neg (by decide), List.append_nil] at HL
              go_wp2_with fail
              exact ⟨⟨i + 1, by omega, by go_num, by rw [HL.out]; exact HO2.out, hB3⟩, by simp [intOf]; omega⟩
            | false =>
              cases h2 : (k.toList == key.toList) with
              | true =>
                rw [show ltB key k = false by rw [eqB_iff.1 (show eqB k key = true from h2), ltB_irrefl], if_neg (by decide), List.append_nil] at HL
                go_wp2_with fail
                exact ⟨⟨i + 1, by omega, by go_num, by rw [HL.out]; exact HO2.out, hB3⟩, by simp [intOf]; omega⟩
              | false =>
                have hlt2 : ltB key k = true := by
                  cases hh : ltB key k
                  · have e := eqB_iff.2 (ltB_tri (show ltB k key = false from h1) hh)
                    rw [show eqB k key = false from h2] at e
                    cases e
                  · rfl
                rw [hlt2, if_pos rfl, HW.out] at HL
                clear hlt2
                go_wp2_with (at_builtin; refine wpList_append_seen wr rfl _ _ _ rfl w.heap.size 25 ti _ 32 (by kernel_rfl) ti1 ti2 ti3 ti4 rfl u8 _ (mid ++ hiF l key i) k z m rfl rfl HO2.out (by omega) (by decide) hB3.size ?_; intro v2 W2 g1; have HO3 := Lib.hid (grewS g1); have HB4 := Lib.hid (hB3.trans (g1.below HO2.out hB3.size)); clear g1)
                exact ⟨⟨i + 1, by omega, by go_num, by rw [HL.out, ← List.append_assoc]; exact HO3.out, HB4.out⟩, by simp [intOf]; omega⟩
          · obtain rfl : n = i := by omega
            have hle2 : (mid ++ hiF l key n).length ≤ 2002 := by rw [List.length_append]; have := hiF_le l key n; have := HML.out; omega
            rw [← HPF.out] at HO2 hle2
            generalize putW l key size = out at *
            obtain ⟨a2, c2, rfl, hc2, hW2⟩ := own_isW rfl (by omega) HO2.out
            have HW2 := Lib.hid hW2
            clear hW2
            have k2 := fun w iW => ref21_Check (a := a2) (cap := c2) (n := out.length) (l := out) rfl w iW
            by_cases hmp : mayW out
            · rw [decide_eq_true hmp] at k2
              rw [if_pos hmp] at HNO
              clear hmp
              go_wp2_with fail
              refine (k2 _ HW2.out).mono ?_
              rintro e w5 ⟨rfl, hb⟩
              have HB5 := Lib.hid (hB3.trans (hb.mono hB3.size))
              have HW3 := Lib.hid (HW2.out.below hb)
              clear hb
              go_wp2_with fail
              go_ret
              exact ⟨_, _, by rw [HNO.out]; rfl, by rw [HNO.out]; exact hc2, by rw [HNO.out]; exact HW3.out, HB5.out⟩
            · rw [decide_eq_false hmp] at k2
              rw [if_neg hmp] at HNO
              clear hmp
              go_wp2_with fail
              refine (k2 _ HW2.out).mono ?_
              rintro e w5 ⟨rfl, hb⟩
              have HB5 := Lib.hid (hB3.trans (hb.mono hB3.size))
              clear hb
              go_wp2_with fail
              go_ret
              exact ⟨_, _, by rw [HNO.out, HN.out]; rfl, by rw [HNO.out, HN.out]; exact hnc, by rw [HNO.out]; exact IW.out.below HB5.out, HB5.out⟩
  · rw [decide_eq_false hmay] at k1
    have hno : noteW l key size = l := by unfold noteW; rw [if_neg (fun hh => hmay hh.1)]
    rw [hno]
    have HN := Lib.hid hn
    clear hn iW hmay hno
    go_enter Tryd.func16, Tryd.ntmps16
    go_wp2_with fail
    refine (k1 _ IW.out).mono ?_
    rintro e w1 ⟨rfl, hb⟩
    have HB1 := Lib.hid hb
    clear hb k1
    go_wp2_with fail
    go_ret
    exact ⟨_, _, by rw [HN.out]; rfl, by rw [HN.out]; exact hnc, IW.out.below HB1.out, HB1.out⟩
end Go.Proofs.YtejipmkbjmcnaaaDoor
