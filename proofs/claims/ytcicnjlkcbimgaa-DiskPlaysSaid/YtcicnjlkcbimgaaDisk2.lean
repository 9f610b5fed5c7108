/- Package disk: up, find, did, the deeds of names, turn. -/
import Derived.Test.YtcicnjlkcbimgaaDisk
import Derived.LaidEqlPtr
namespace Go.Proofs.Ytcicnjlkcbimgaa
open Go.RowKit Go.Maps
theorem zero_file (w : World) : (zeroValue 84).run Try.prog w = .ok (.pointer none) w := by kernel_rfl
/-- m[name] without ok: the pointer, or nil. -/
theorem wpList_name (w : World) {ops : Array Oper} {rest : List Oper} {o : Oper} {a : Act} {Q : Exit → Act → World → Prop} (hg : o.guard = none) (m x : Operand) (hop : o.op = Op.lookup 79 m x false)
    (b : Nat) (g : Nat → Nat) (l : Dir) (hm : a.eval m = .map (some b)) (h : DirAt w b g l) (s : Nm) (hx : a.eval x = .string ⟨s.toArray⟩) (hs : s.length ≤ maxLen)
    (hK : wpList Try.prog ops Q rest (a.put o.dst (match dirGet l s with | some i => (.pointer (some ⟨g i, 0, none⟩)) | none => .pointer none)) w) : wpList Try.prog ops Q (o :: rest) a w := by
  refine wpList_plain hg fun K' hK' => ?_
  obtain ⟨v, ps, hrun, hv⟩ := World.ownsMap.lookup h law_str Try.underlying79 (zero_file w) (zd := .lit (.int .i64 (-1))) (zp := []) rfl (key_str hs)
  rw [dirD_get] at hv
  have e : v = match dirGet l s with | some i => (.pointer (some ⟨g i, 0, none⟩)) | none => .pointer none := by
    cases hd : dirGet l s with
    | none => rw [hd] at hv; exact ptrR_no hv
    | some i => rw [hd] at hv; exact ptrR_at hv
  subst e
  unfold Oper.wp
  simp [execOp, hop, hm, hx, hrun, Result.andThen]
  exact hK' _ _ hK
theorem run_name_some {w : World} {b : Nat} {g : Nat → Nat} {l : Dir} (h : DirAt w b g l) {s : Nm} (hs : s.length ≤ maxLen) {i : Nat} (hd : dirGet l s = some i) :
    (Instr.lookup 79 (.map (some b)) (.string ⟨s.toArray⟩) false).run Try.prog w = .ok (.pointer (some ⟨g i, 0, none⟩)) w := by
  obtain ⟨v, ps, hrun, hv⟩ := World.ownsMap.lookup h law_str Try.underlying79 (zero_file w) (zd := .lit (.int .i64 (-1))) (zp := []) rfl (key_str hs)
  rw [dirD_get, hd] at hv
  rw [hrun, ptrR_at hv]
theorem run_name_none {w : World} {b : Nat} {g : Nat → Nat} {l : Dir} (h : DirAt w b g l) {s : Nm} (hs : s.length ≤ maxLen) (hd : dirGet l s = none) :
    (Instr.lookup 79 (.map (some b)) (.string ⟨s.toArray⟩) false).run Try.prog w = .ok (.pointer none) w := by
  obtain ⟨v, ps, hrun, hv⟩ := World.ownsMap.lookup h law_str Try.underlying79 (zero_file w) (zd := .lit (.int .i64 (-1))) (zp := []) rfl (key_str hs)
  rw [dirD_get, hd] at hv
  rw [hrun, ptrR_no hv]
theorem wpList_name_some (w : World) {ops : Array Oper} {rest : List Oper} {o : Oper} {a : Act} {Q : Exit → Act → World → Prop} (hg : o.guard = none) (m x : Operand) (hop : o.op = Op.lookup 79 m x false)
    (b : Nat) (g : Nat → Nat) (l : Dir) (hm : a.eval m = .map (some b)) (h : DirAt w b g l) (s : Nm) (hx : a.eval x = .string ⟨s.toArray⟩) (hs : s.length ≤ maxLen) (i : Nat) (hd : dirGet l s = some i)
    (hK : wpList Try.prog ops Q rest (a.put o.dst (.pointer (some ⟨g i, 0, none⟩))) w) : wpList Try.prog ops Q (o :: rest) a w :=
  wpList_name w hg m x hop b g l hm h s hx hs (by rw [hd]; exact hK)
theorem wpList_name_none (w : World) {ops : Array Oper} {rest : List Oper} {o : Oper} {a : Act} {Q : Exit → Act → World → Prop} (hg : o.guard = none) (m x : Operand) (hop : o.op = Op.lookup 79 m x false)
    (b : Nat) (g : Nat → Nat) (l : Dir) (hm : a.eval m = .map (some b)) (h : DirAt w b g l) (s : Nm) (hx : a.eval x = .string ⟨s.toArray⟩) (hs : s.length ≤ maxLen) (hd : dirGet l s = none)
    (hK : wpList Try.prog ops Q rest (a.put o.dst (.pointer none)) w) : wpList Try.prog ops Q (o :: rest) a w :=
  wpList_name w hg m x hop b g l hm h s hx hs (by rw [hd]; exact hK)
set_option maxRecDepth 100000 in
theorem up_any (d : Nat) (F : Nat → Prop) (q : DW) (st : Dk) (w : World) (h : DiskAt w d F q st) :
    Calls Try.prog 30 #[(.pointer (some ⟨d, 0, none⟩))] w fun e w' => e = .returned (errV (if st.armed = 0 then 12 else 0)) ∧ w = w' := by
  obtain ⟨c0, c1, c2, c3, c4, c5, cf⟩ := cells6 h.blk
  by_cases ha : st.armed = 0
  · rw [ha] at c5
    rw [if_pos ha]
    clear h c0 c1 c2 c3 c4 ha
    go_enter Try.func30, Try.ntmps30
    go_wp2
    go_ret
    exact ⟨rfl, rfl⟩
  · have hb : (st.armed == 0) = false := beq_eq_false_iff_ne.2 ha
    rw [if_neg ha]
    clear h c0 c1 c2 c3 c4 ha
    go_enter Try.func30, Try.ntmps30
    go_wp2
    go_ret
    exact ⟨rfl, rfl⟩
set_option maxRecDepth 100000 in
theorem find_any (d : Nat) (F : Nat → Prop) (q : DW) (st : Dk) (s : Nm) (w : World) (h : DiskAt w d F q st) (hs : s.length ≤ maxLen) :
    Calls Try.prog 34 #[(.pointer (some ⟨d, 0, none⟩)), .string ⟨s.toArray⟩] w fun e w' => e = .returned (.tuple #[if (st.fnd s).1 = 0 then (.pointer (some ⟨q.fb (st.fnd s).2, 0, none⟩)) else .pointer none, errV (st.fnd s).1]) ∧ w = w' := by
  have H := Lib.hid h
  obtain ⟨c0, c1, c2, c3, c4, c5, cf⟩ := cells6 h.blk
  clear c0 c1 c3 c4 c5 cf h
  by_cases ha : st.armed = 0
  · have e : st.fnd s = (12, 0) := by unfold Dk.fnd; rw [if_pos ha]
    rw [e]
    have HA := Lib.hid ha
    clear e ha
    go_enter Try.func34, Try.ntmps34
    go_wp2_with fail
    refine (up_any d F q st _ H.out).mono ?_
    rintro e w' ⟨rfl, rfl⟩
    rw [if_pos HA.out, errV_ne (by omega)]
    go_wp2
    go_ret2
    exact ⟨rfl, rfl⟩
  · cases hd : dirGet st.now s with
    | none =>
      have e : st.fnd s = (6, 0) := by unfold Dk.fnd; rw [if_neg ha, hd]
      rw [e]
      have HA := Lib.hid ha
      have HD := Lib.hid hd
      clear e ha hd
      go_enter Try.func34, Try.ntmps34
      go_wp2_with fail
      refine (up_any d F q st _ H.out).mono ?_
      rintro e w' ⟨rfl, rfl⟩
      rw [if_neg HA.out, errV_zero]
      go_wp2_with (at_lookup; refine wpList_name_none _ rfl _ _ rfl q.bn q.fb st.now rfl H.out.now s rfl hs HD.out ?_)
      go_ret2
      exact ⟨rfl, rfl⟩
    | some i =>
      have e : st.fnd s = (0, i) := by unfold Dk.fnd; rw [if_neg ha, hd]
      rw [e]
      have HA := Lib.hid ha
      have HD := Lib.hid hd
      clear e ha hd
      go_enter Try.func34, Try.ntmps34
      go_wp2_with fail
      refine (up_any d F q st _ H.out).mono ?_
      rintro e w' ⟨rfl, rfl⟩
      rw [if_neg HA.out, errV_zero]
      go_wp2_with (at_lookup; refine wpList_name_some _ rfl _ _ rfl q.bn q.fb st.now rfl H.out.now s rfl hs i HD.out ?_)
      go_ret2
      exact ⟨rfl, rfl⟩
end Go.Proofs.Ytcicnjlkcbimgaa
