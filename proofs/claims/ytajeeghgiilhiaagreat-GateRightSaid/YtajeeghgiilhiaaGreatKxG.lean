/- Texts of one chain, put together (Facts, N0, N1, N2, N3, N4, N5). -/
import Derived.Test.YtajeeghgiilhiaaGreatRows
import Derived.Test.YtajeeghgiilhiaaGreatKxF
import Derived.Test.YtajeeghgiilhiaaGreatKxE
import Derived.Test.YtajeeghgiilhiaaGreatKxA
set_option linter.unusedVariables false
set_option linter.unusedSimpArgs false
set_option maxHeartbeats 16000000
set_option maxRecDepth 8000
section
namespace Go.Proofs.YtajeeghgiilhiaaGreat
open Go Go.Abs
theorem MH:ef Tryz.prog 2=some (false,1):=by kernel_rfl
theorem Hl:ef Tryz.prog 3=some (false,1):=by kernel_rfl
theorem V3:ef Tryz.prog 4=some (false,1):=by kernel_rfl
theorem LY:ef Tryz.prog 5=some (false,1):=by kernel_rfl
theorem Mj:ef Tryz.prog 9=some (false,1):=by kernel_rfl
theorem YI:ef Tryz.prog 22=some (false,1):=by kernel_rfl
theorem YX:ef Tryz.prog 23=some (false,1):=by kernel_rfl
theorem Wf:ef Tryz.prog 24=some (false,1):=by kernel_rfl
theorem JW:ef Tryz.prog 26=some (true,5):=by kernel_rfl
theorem MI:ef Tryz.prog 27=some (false,1):=by kernel_rfl
theorem Yx:ef Tryz.prog 45=some (true,2):=by kernel_rfl
theorem TB:ef Tryz.prog 49=some (true,5):=by kernel_rfl
theorem We:ef Tryz.prog 55=some (false,1):=by kernel_rfl
theorem EC:ef Tryz.prog 56=some (false,1):=by kernel_rfl
theorem Eb:ef Tryz.prog 58=some (true,5):=by kernel_rfl
theorem E5:ef Tryz.prog 63=some (true,6):=by kernel_rfl
theorem Hz:ef Tryz.prog 65=some (true,8):=by kernel_rfl
theorem U1:ef Tryz.prog 69=some (true,10):=by kernel_rfl
theorem VM:ef Tryz.prog 77=some (true,29):=by kernel_rfl
theorem Pf:ef Tryz.prog 86=some (true,8):=by kernel_rfl
theorem Ot:ef Tryz.prog 106=some (true,9):=by kernel_rfl
theorem FM:ef Tryz.prog 176=some (true,2):=by kernel_rfl
theorem UQ:ef Tryz.prog 243=some (false,1):=by kernel_rfl
theorem Xr:fieldInfo Tryz.prog 26 0=some (0,22,1):=by kernel_rfl
theorem NO:fieldInfo Tryz.prog 26 1=some (1,23,1):=by kernel_rfl
theorem Xu:fieldInfo Tryz.prog 26 2=some (2,24,1):=by kernel_rfl
theorem M9:fieldInfo Tryz.prog 26 3=some (3,2,1):=by kernel_rfl
theorem PH:fieldInfo Tryz.prog 26 4=some (4,3,1):=by kernel_rfl
theorem EM:fieldInfo Tryz.prog 45 0=some (0,2,1):=by kernel_rfl
theorem Kp:fieldInfo Tryz.prog 45 1=some (1,2,1):=by kernel_rfl
theorem V1:fieldInfo Tryz.prog 49 0=some (0,9,1):=by kernel_rfl
theorem ND:fieldInfo Tryz.prog 49 1=some (1,9,1):=by kernel_rfl
theorem TT:fieldInfo Tryz.prog 49 2=some (2,2,1):=by kernel_rfl
theorem X7:fieldInfo Tryz.prog 49 3=some (3,2,1):=by kernel_rfl
theorem Kt:fieldInfo Tryz.prog 49 4=some (4,4,1):=by kernel_rfl
theorem W4:fieldInfo Tryz.prog 58 0=some (0,55,1):=by kernel_rfl
theorem UY:fieldInfo Tryz.prog 58 1=some (1,56,1):=by kernel_rfl
theorem SQ:fieldInfo Tryz.prog 58 2=some (2,4,1):=by kernel_rfl
theorem Yp:fieldInfo Tryz.prog 58 3=some (3,2,1):=by kernel_rfl
theorem Hm:fieldInfo Tryz.prog 58 4=some (4,2,1):=by kernel_rfl
theorem EN:fieldInfo Tryz.prog 63 0=some (0,9,1):=by kernel_rfl
theorem Yr:fieldInfo Tryz.prog 63 1=some (1,9,1):=by kernel_rfl
theorem JP:fieldInfo Tryz.prog 63 2=some (2,2,1):=by kernel_rfl
theorem Ig:fieldInfo Tryz.prog 63 3=some (3,2,1):=by kernel_rfl
theorem JB:fieldInfo Tryz.prog 63 4=some (4,2,1):=by kernel_rfl
theorem Ev:fieldInfo Tryz.prog 63 5=some (5,2,1):=by kernel_rfl
theorem Qk:fieldInfo Tryz.prog 65 0=some (0,9,1):=by kernel_rfl
theorem Xm:fieldInfo Tryz.prog 65 1=some (1,9,1):=by kernel_rfl
theorem Jr:fieldInfo Tryz.prog 65 2=some (2,9,1):=by kernel_rfl
theorem KK:fieldInfo Tryz.prog 65 3=some (3,4,1):=by kernel_rfl
theorem U2:fieldInfo Tryz.prog 65 4=some (4,2,1):=by kernel_rfl
theorem Tl:fieldInfo Tryz.prog 65 5=some (5,2,1):=by kernel_rfl
theorem Eg:fieldInfo Tryz.prog 65 6=some (6,2,1):=by kernel_rfl
theorem H5:fieldInfo Tryz.prog 65 7=some (7,4,1):=by kernel_rfl
theorem FZ:fieldInfo Tryz.prog 69 0=some (0,9,1):=by kernel_rfl
theorem Ja:fieldInfo Tryz.prog 69 1=some (1,9,1):=by kernel_rfl
theorem Sp:fieldInfo Tryz.prog 69 2=some (2,9,1):=by kernel_rfl
theorem J5:fieldInfo Tryz.prog 69 3=some (3,9,1):=by kernel_rfl
theorem Hh:fieldInfo Tryz.prog 69 4=some (4,9,1):=by kernel_rfl
theorem Mk:fieldInfo Tryz.prog 69 5=some (5,3,1):=by kernel_rfl
theorem MQ:fieldInfo Tryz.prog 69 6=some (6,4,1):=by kernel_rfl
theorem Tq:fieldInfo Tryz.prog 69 7=some (7,2,1):=by kernel_rfl
theorem LF:fieldInfo Tryz.prog 69 8=some (8,2,1):=by kernel_rfl
theorem E4:fieldInfo Tryz.prog 69 9=some (9,2,1):=by kernel_rfl
theorem Ni:fieldInfo Tryz.prog 77 0=some (0,5,1):=by kernel_rfl
theorem NG:fieldInfo Tryz.prog 77 1=some (1,3,1):=by kernel_rfl
theorem FL:fieldInfo Tryz.prog 77 2=some (2,65,8):=by kernel_rfl
theorem NF:fieldInfo Tryz.prog 77 3=some (10,9,1):=by kernel_rfl
theorem JG:fieldInfo Tryz.prog 77 4=some (11,69,10):=by kernel_rfl
theorem DC:fieldInfo Tryz.prog 77 5=some (21,5,1):=by kernel_rfl
theorem VL:fieldInfo Tryz.prog 77 6=some (22,4,1):=by kernel_rfl
theorem Xp:fieldInfo Tryz.prog 77 7=some (23,63,6):=by kernel_rfl
theorem QY:fieldInfo Tryz.prog 86 0=some (0,26,5):=by kernel_rfl
theorem M7:fieldInfo Tryz.prog 86 1=some (5,22,1):=by kernel_rfl
theorem Sv:fieldInfo Tryz.prog 86 2=some (6,2,1):=by kernel_rfl
theorem WZ:fieldInfo Tryz.prog 86 3=some (7,4,1):=by kernel_rfl
theorem DV:fieldInfo Tryz.prog 106 0=some (0,9,1):=by kernel_rfl
theorem OS:fieldInfo Tryz.prog 106 1=some (1,9,1):=by kernel_rfl
theorem Dl:fieldInfo Tryz.prog 106 2=some (2,9,1):=by kernel_rfl
theorem XX:fieldInfo Tryz.prog 106 3=some (3,9,1):=by kernel_rfl
theorem Hk:fieldInfo Tryz.prog 106 4=some (4,4,1):=by kernel_rfl
theorem F2:fieldInfo Tryz.prog 106 5=some (5,2,1):=by kernel_rfl
theorem XT:fieldInfo Tryz.prog 106 6=some (6,2,1):=by kernel_rfl
theorem Ti:fieldInfo Tryz.prog 106 7=some (7,2,1):=by kernel_rfl
theorem Uk:fieldInfo Tryz.prog 106 8=some (8,4,1):=by kernel_rfl
theorem OF:fieldInfo Tryz.prog 169 0=some (0,2,1):=by kernel_rfl
theorem Hc:fieldInfo Tryz.prog 169 1=some (1,4,1):=by kernel_rfl
theorem Is:fieldInfo Tryz.prog 169 2=some (2,4,1):=by kernel_rfl
theorem Pr:fieldInfo Tryz.prog 169 3=some (3,3,1):=by kernel_rfl
theorem XW:fieldInfo Tryz.prog 176 0=some (0,9,1):=by kernel_rfl
theorem GO:fieldInfo Tryz.prog 176 1=some (1,9,1):=by kernel_rfl
theorem Xx:gJ Tryz.prog 22=some (none,65,8):=by kernel_rfl
theorem Hs:gJ Tryz.prog 23=some (none,106,9):=by kernel_rfl
theorem U8:gJ Tryz.prog 24=some (none,9,1):=by kernel_rfl
theorem Pk:gJ Tryz.prog 27=some (none,49,5):=by kernel_rfl
theorem Mu:gJ Tryz.prog 31=some (none,27,1):=by kernel_rfl
theorem Ii:gJ Tryz.prog 55=some (none,86,8):=by kernel_rfl
theorem Vm:gJ Tryz.prog 56=some (none,63,6):=by kernel_rfl
theorem Xe:gJ Tryz.prog 73=some (none,77,29):=by kernel_rfl
theorem LK:gJ Tryz.prog 91=some (none,69,10):=by kernel_rfl
theorem I0:gJ Tryz.prog 92=some (none,4,1):=by kernel_rfl
theorem Kn:gJ Tryz.prog 174=some (none,176,2):=by kernel_rfl
theorem JC:gJ Tryz.prog 187=some (none,2,1):=by kernel_rfl
theorem Mf:gJ Tryz.prog 217=some (none,3,1):=by kernel_rfl
theorem X0:gJ Tryz.prog 222=some (some 5,4,1):=by kernel_rfl
theorem pY:dd Tryz.prog 22=some (65,8,88):=by kernel_rfl
theorem xK:dd Tryz.prog 23=some (106,9,104):=by kernel_rfl
theorem SZ:dd Tryz.prog 24=some (9,1,16):=by kernel_rfl
theorem BB:dd Tryz.prog 27=some (49,5,56):=by kernel_rfl
theorem E8:dd Tryz.prog 31=some (27,1,24):=by kernel_rfl
theorem eN:dd Tryz.prog 55=some (86,8,128):=by kernel_rfl
theorem nh:dd Tryz.prog 56=some (63,6,64):=by kernel_rfl
theorem Cj:dd Tryz.prog 174=some (176,2,32):=by kernel_rfl
theorem XU:dd Tryz.prog 187=some (2,1,8):=by kernel_rfl
theorem NR:dd Tryz.prog 217=some (3,1,8):=by kernel_rfl
theorem JA:bK Tryz.prog 2=some 1:=by kernel_rfl
theorem EJ:bK Tryz.prog 3=some 1:=by kernel_rfl
theorem Me:bK Tryz.prog 4=some 1:=by kernel_rfl
theorem J3:bK Tryz.prog 9=some 1:=by kernel_rfl
theorem SG:bK Tryz.prog 22=some 1:=by kernel_rfl
theorem Ih:bK Tryz.prog 23=some 1:=by kernel_rfl
theorem Yl:bK Tryz.prog 24=some 1:=by kernel_rfl
theorem HV:bK Tryz.prog 26=some 5:=by kernel_rfl
theorem H4:bK Tryz.prog 27=some 1:=by kernel_rfl
theorem S0:bK Tryz.prog 45=some 2:=by kernel_rfl
theorem HP:bK Tryz.prog 49=some 5:=by kernel_rfl
theorem Ee:bK Tryz.prog 55=some 1:=by kernel_rfl
theorem IQ:bK Tryz.prog 56=some 1:=by kernel_rfl
theorem Qp:bK Tryz.prog 58=some 5:=by kernel_rfl
theorem P2:bK Tryz.prog 63=some 6:=by kernel_rfl
theorem Ix:bK Tryz.prog 65=some 8:=by kernel_rfl
theorem Gk:bK Tryz.prog 69=some 10:=by kernel_rfl
theorem D6:bK Tryz.prog 77=some 29:=by kernel_rfl
theorem KX:bK Tryz.prog 86=some 8:=by kernel_rfl
theorem FQ:bK Tryz.prog 106=some 9:=by kernel_rfl
theorem Mi:bK Tryz.prog 169=some 4:=by kernel_rfl
theorem D0:bK Tryz.prog 176=some 2:=by kernel_rfl
theorem J6:bK Tryz.prog 222=some 5:=by kernel_rfl
theorem Qv:bK Tryz.prog 243=some 1:=by kernel_rfl
theorem tw:eI Tryz.prog 22=true:=by kernel_rfl
theorem Yq:eI Tryz.prog 23=true:=by kernel_rfl
theorem Fe:eI Tryz.prog 24=true:=by kernel_rfl
theorem yK:eI Tryz.prog 27=true:=by kernel_rfl
theorem SR:eI Tryz.prog 31=true:=by kernel_rfl
theorem jE:eI Tryz.prog 55=true:=by kernel_rfl
theorem zJ:eI Tryz.prog 56=true:=by kernel_rfl
theorem Rr:eI Tryz.prog 174=true:=by kernel_rfl
theorem Xa:eI Tryz.prog 187=true:=by kernel_rfl
theorem Kk:lv Tryz.prog 45=some [0,0]:=by kernel_rfl
theorem SJ:lv Tryz.prog 49=some [1,1,0,0,2]:=by kernel_rfl
theorem Oj:lv Tryz.prog 63=some [1,1,0,0,0,0]:=by kernel_rfl
theorem PF:lv Tryz.prog 65=some [1,1,1,2,0,0,0,2]:=by kernel_rfl
theorem W7:lv Tryz.prog 106=some [1,1,1,1,2,0,0,0,2]:=by kernel_rfl
theorem SV:lv Tryz.prog 176=some [1,1]:=by kernel_rfl
theorem Rq:au Tryz.prog 10=true:=by kernel_rfl
theorem NN:au Tryz.prog 11=true:=by kernel_rfl
theorem GC:au Tryz.prog 12=true:=by kernel_rfl
theorem NS:au Tryz.prog 13=true:=by kernel_rfl
theorem Oh:au Tryz.prog 14=true:=by kernel_rfl
theorem SE:au Tryz.prog 15=true:=by kernel_rfl
theorem Ql:au Tryz.prog 16=true:=by kernel_rfl
theorem UZ:au Tryz.prog 17=true:=by kernel_rfl
theorem C4:au Tryz.prog 18=true:=by kernel_rfl
theorem H0:au Tryz.prog 19=true:=by kernel_rfl
theorem ML:au Tryz.prog 20=true:=by kernel_rfl
theorem YO:au Tryz.prog 21=true:=by kernel_rfl
theorem I8:au Tryz.prog 22=true:=by kernel_rfl
theorem Pg:au Tryz.prog 23=true:=by kernel_rfl
theorem Fl:au Tryz.prog 24=true:=by kernel_rfl
theorem Dm:au Tryz.prog 25=true:=by kernel_rfl
theorem GS:au Tryz.prog 26=true:=by kernel_rfl
theorem Ky:au Tryz.prog 27=true:=by kernel_rfl
theorem It:au Tryz.prog 28=true:=by kernel_rfl
theorem Fa:au Tryz.prog 29=true:=by kernel_rfl
theorem Fk:au Tryz.prog 30=true:=by kernel_rfl
theorem Hd:au Tryz.prog 31=true:=by kernel_rfl
theorem MP:au Tryz.prog 32=true:=by kernel_rfl
theorem Tz:au Tryz.prog 33=true:=by kernel_rfl
theorem Wv:au Tryz.prog 34=true:=by kernel_rfl
theorem F0:au Tryz.prog 35=true:=by kernel_rfl
theorem NQ:au Tryz.prog 36=true:=by kernel_rfl
theorem MV:au Tryz.prog 37=true:=by kernel_rfl
theorem D5:au Tryz.prog 38=true:=by kernel_rfl
theorem Vb:au Tryz.prog 39=true:=by kernel_rfl
theorem Vi:au Tryz.prog 40=true:=by kernel_rfl
theorem RM:au Tryz.prog 41=true:=by kernel_rfl
theorem Vj:au Tryz.prog 42=true:=by kernel_rfl
theorem Dz:au Tryz.prog 43=true:=by kernel_rfl
theorem E0:au Tryz.prog 44=true:=by kernel_rfl
theorem Ou:au Tryz.prog 45=true:=by kernel_rfl
theorem MX:au Tryz.prog 46=true:=by kernel_rfl
theorem Qc:au Tryz.prog 47=true:=by kernel_rfl
theorem Vx:au Tryz.prog 48=true:=by kernel_rfl
theorem Ox:au Tryz.prog 49=true:=by kernel_rfl
theorem Oi:au Tryz.prog 50=true:=by kernel_rfl
theorem Fc:au Tryz.prog 51=true:=by kernel_rfl
theorem R8:au Tryz.prog 52=true:=by kernel_rfl
theorem LR:au Tryz.prog 53=true:=by kernel_rfl
theorem LZ:au Tryz.prog 54=true:=by kernel_rfl
theorem GX:au Tryz.prog 55=true:=by kernel_rfl
theorem JZ:au Tryz.prog 56=true:=by kernel_rfl
theorem QU:au Tryz.prog 57=true:=by kernel_rfl
theorem EX:au Tryz.prog 58=true:=by kernel_rfl
theorem MS:au Tryz.prog 59=true:=by kernel_rfl
theorem Vo:au Tryz.prog 60=true:=by kernel_rfl
theorem Mr:au Tryz.prog 61=true:=by kernel_rfl
theorem TC:au Tryz.prog 62=true:=by kernel_rfl
theorem Dw:au Tryz.prog 63=true:=by kernel_rfl
theorem Mo:au Tryz.prog 64=true:=by kernel_rfl
theorem Lf:au Tryz.prog 65=true:=by kernel_rfl
theorem F3:au Tryz.prog 66=true:=by kernel_rfl
theorem Vp:au Tryz.prog 67=true:=by kernel_rfl
theorem QA:au Tryz.prog 68=true:=by kernel_rfl
theorem TA:au Tryz.prog 69=true:=by kernel_rfl
theorem M1:au Tryz.prog 70=true:=by kernel_rfl
theorem MZ:au Tryz.prog 71=true:=by kernel_rfl
theorem RH:au Tryz.prog 72=true:=by kernel_rfl
theorem Ko:au Tryz.prog 73=true:=by kernel_rfl
theorem Dj:au Tryz.prog 74=true:=by kernel_rfl
theorem Je:au Tryz.prog 75=true:=by kernel_rfl
theorem QL:au Tryz.prog 76=true:=by kernel_rfl
theorem Ec:au Tryz.prog 77=true:=by kernel_rfl
theorem Pd:au Tryz.prog 78=true:=by kernel_rfl
theorem LV:au Tryz.prog 79=true:=by kernel_rfl
theorem SH:au Tryz.prog 80=true:=by kernel_rfl
theorem WR:au Tryz.prog 81=true:=by kernel_rfl
theorem OG:au Tryz.prog 82=true:=by kernel_rfl
theorem O6:au Tryz.prog 83=true:=by kernel_rfl
theorem NK:au Tryz.prog 84=true:=by kernel_rfl
theorem Xb:au Tryz.prog 85=true:=by kernel_rfl
theorem LX:au Tryz.prog 86=true:=by kernel_rfl
theorem Up:au Tryz.prog 87=true:=by kernel_rfl
theorem Wa:au Tryz.prog 88=true:=by kernel_rfl
theorem Ve:au Tryz.prog 89=true:=by kernel_rfl
theorem F8:au Tryz.prog 90=true:=by kernel_rfl
theorem Tb:au Tryz.prog 91=true:=by kernel_rfl
theorem P5:au Tryz.prog 92=true:=by kernel_rfl
theorem WW:au Tryz.prog 93=true:=by kernel_rfl
theorem FO:au Tryz.prog 94=true:=by kernel_rfl
theorem ES:au Tryz.prog 95=true:=by kernel_rfl
theorem Xv:au Tryz.prog 96=true:=by kernel_rfl
theorem Mh:au Tryz.prog 97=true:=by kernel_rfl
theorem QZ:au Tryz.prog 98=true:=by kernel_rfl
theorem JH:au Tryz.prog 99=true:=by kernel_rfl
theorem OU:au Tryz.prog 100=true:=by kernel_rfl
theorem VE:au Tryz.prog 101=true:=by kernel_rfl
theorem TS:au Tryz.prog 102=true:=by kernel_rfl
theorem Ye:au Tryz.prog 103=true:=by kernel_rfl
theorem Jt:au Tryz.prog 104=true:=by kernel_rfl
theorem KH:au Tryz.prog 105=true:=by kernel_rfl
theorem UN:au Tryz.prog 106=true:=by kernel_rfl
theorem Oy:au Tryz.prog 107=true:=by kernel_rfl
theorem Fh:au Tryz.prog 108=true:=by kernel_rfl
theorem YC:au Tryz.prog 109=true:=by kernel_rfl
theorem GV:au Tryz.prog 110=true:=by kernel_rfl
theorem OZ:au Tryz.prog 111=true:=by kernel_rfl
theorem Wd:au Tryz.prog 112=true:=by kernel_rfl
theorem KD:au Tryz.prog 113=true:=by kernel_rfl
theorem Nt:au Tryz.prog 114=true:=by kernel_rfl
theorem GB:au Tryz.prog 115=true:=by kernel_rfl
theorem Ub:au Tryz.prog 116=true:=by kernel_rfl
theorem H8:au Tryz.prog 117=true:=by kernel_rfl
theorem Nu:au Tryz.prog 118=true:=by kernel_rfl
theorem M5:au Tryz.prog 119=true:=by kernel_rfl
theorem Pc:au Tryz.prog 120=true:=by kernel_rfl
theorem Ma:au Tryz.prog 121=true:=by kernel_rfl
theorem Ud:au Tryz.prog 122=true:=by kernel_rfl
theorem XZ:au Tryz.prog 123=true:=by kernel_rfl
theorem Qb:au Tryz.prog 124=true:=by kernel_rfl
theorem Wn:au Tryz.prog 125=true:=by kernel_rfl
theorem Pj:au Tryz.prog 126=true:=by kernel_rfl
theorem I5:au Tryz.prog 127=true:=by kernel_rfl
theorem Tj:au Tryz.prog 128=true:=by kernel_rfl
theorem Qy:au Tryz.prog 129=true:=by kernel_rfl
theorem Xc:au Tryz.prog 131=true:=by kernel_rfl
theorem RU:au Tryz.prog 132=true:=by kernel_rfl
theorem XS:au Tryz.prog 133=true:=by kernel_rfl
theorem J9:au Tryz.prog 134=true:=by kernel_rfl
theorem Ut:au Tryz.prog 136=true:=by kernel_rfl
theorem Tw:au Tryz.prog 137=true:=by kernel_rfl
theorem Qo:au Tryz.prog 138=true:=by kernel_rfl
theorem Md:au Tryz.prog 139=true:=by kernel_rfl
theorem Rj:au Tryz.prog 140=true:=by kernel_rfl
theorem KI:au Tryz.prog 141=true:=by kernel_rfl
theorem Py:au Tryz.prog 142=true:=by kernel_rfl
theorem Dg:au Tryz.prog 143=true:=by kernel_rfl
theorem C2:au Tryz.prog 144=true:=by kernel_rfl
theorem V2:au Tryz.prog 145=true:=by kernel_rfl
theorem GH:au Tryz.prog 146=true:=by kernel_rfl
theorem Va:au Tryz.prog 147=true:=by kernel_rfl
theorem Ew:au Tryz.prog 148=true:=by kernel_rfl
theorem Y0:au Tryz.prog 149=true:=by kernel_rfl
theorem Jq:au Tryz.prog 150=true:=by kernel_rfl
theorem V4:au Tryz.prog 151=true:=by kernel_rfl
theorem PX:au Tryz.prog 152=true:=by kernel_rfl
theorem UX:au Tryz.prog 153=true:=by kernel_rfl
theorem Tc:au Tryz.prog 154=true:=by kernel_rfl
theorem RD:au Tryz.prog 155=true:=by kernel_rfl
theorem QH:au Tryz.prog 156=true:=by kernel_rfl
theorem P3:au Tryz.prog 157=true:=by kernel_rfl
theorem Xy:au Tryz.prog 158=true:=by kernel_rfl
theorem PT:au Tryz.prog 159=true:=by kernel_rfl
theorem Fo:au Tryz.prog 160=true:=by kernel_rfl
theorem Kg:au Tryz.prog 161=true:=by kernel_rfl
theorem Ns:au Tryz.prog 162=true:=by kernel_rfl
theorem YD:au Tryz.prog 163=true:=by kernel_rfl
theorem No:au Tryz.prog 164=true:=by kernel_rfl
theorem Xq:au Tryz.prog 165=true:=by kernel_rfl
theorem Oe:au Tryz.prog 166=true:=by kernel_rfl
theorem DO:au Tryz.prog 167=true:=by kernel_rfl
theorem XG:au Tryz.prog 168=true:=by kernel_rfl
theorem TI:au Tryz.prog 169=true:=by kernel_rfl
theorem RL:au Tryz.prog 170=true:=by kernel_rfl
theorem XE:au Tryz.prog 171=true:=by kernel_rfl
theorem Gj:au Tryz.prog 172=true:=by kernel_rfl
theorem W5:au Tryz.prog 173=true:=by kernel_rfl
theorem HF:au Tryz.prog 174=true:=by kernel_rfl
theorem Fx:au Tryz.prog 175=true:=by kernel_rfl
theorem Fb:au Tryz.prog 176=true:=by kernel_rfl
theorem Vh:au Tryz.prog 177=true:=by kernel_rfl
theorem DF:au Tryz.prog 178=true:=by kernel_rfl
theorem R2:au Tryz.prog 179=true:=by kernel_rfl
theorem UA:au Tryz.prog 180=true:=by kernel_rfl
theorem Dk:au Tryz.prog 181=true:=by kernel_rfl
theorem Lh:au Tryz.prog 182=true:=by kernel_rfl
theorem Mx:au Tryz.prog 183=true:=by kernel_rfl
theorem O2:au Tryz.prog 184=true:=by kernel_rfl
theorem Ta:au Tryz.prog 185=true:=by kernel_rfl
theorem OM:au Tryz.prog 186=true:=by kernel_rfl
theorem Hj:au Tryz.prog 187=true:=by kernel_rfl
theorem Du:au Tryz.prog 189=true:=by kernel_rfl
theorem KM:au Tryz.prog 190=true:=by kernel_rfl
theorem NY:au Tryz.prog 192=true:=by kernel_rfl
theorem GG:au Tryz.prog 193=true:=by kernel_rfl
theorem Uc:au Tryz.prog 194=true:=by kernel_rfl
theorem US:au Tryz.prog 195=true:=by kernel_rfl
theorem Gf:au Tryz.prog 196=true:=by kernel_rfl
theorem Gr:au Tryz.prog 197=true:=by kernel_rfl
theorem HX:au Tryz.prog 198=true:=by kernel_rfl
theorem Xn:au Tryz.prog 199=true:=by kernel_rfl
theorem WU:au Tryz.prog 200=true:=by kernel_rfl
theorem NP:au Tryz.prog 201=true:=by kernel_rfl
theorem Jd:au Tryz.prog 202=true:=by kernel_rfl
theorem Uh:au Tryz.prog 203=true:=by kernel_rfl
theorem VJ:au Tryz.prog 204=true:=by kernel_rfl
theorem Hb:au Tryz.prog 207=true:=by kernel_rfl
theorem Jv:au Tryz.prog 208=true:=by kernel_rfl
theorem Xg:au Tryz.prog 209=true:=by kernel_rfl
theorem F9:au Tryz.prog 210=true:=by kernel_rfl
theorem Nd:au Tryz.prog 211=true:=by kernel_rfl
theorem NC:au Tryz.prog 212=true:=by kernel_rfl
theorem Ya:au Tryz.prog 213=true:=by kernel_rfl
theorem Yb:au Tryz.prog 214=true:=by kernel_rfl
theorem Rl:au Tryz.prog 215=true:=by kernel_rfl
theorem Kx:au Tryz.prog 216=true:=by kernel_rfl
theorem NZ:au Tryz.prog 217=true:=by kernel_rfl
theorem OJ:au Tryz.prog 218=true:=by kernel_rfl
theorem S7:au Tryz.prog 219=true:=by kernel_rfl
theorem Uq:au Tryz.prog 220=true:=by kernel_rfl
theorem H9:au Tryz.prog 221=true:=by kernel_rfl
theorem I2:au Tryz.prog 222=true:=by kernel_rfl
theorem FR:au Tryz.prog 223=true:=by kernel_rfl
theorem Vu:au Tryz.prog 224=true:=by kernel_rfl
theorem PW:au Tryz.prog 225=true:=by kernel_rfl
theorem Ux:au Tryz.prog 226=true:=by kernel_rfl
theorem IW:au Tryz.prog 227=true:=by kernel_rfl
theorem Us:au Tryz.prog 228=true:=by kernel_rfl
theorem U3:au Tryz.prog 229=true:=by kernel_rfl
theorem NI:au Tryz.prog 230=true:=by kernel_rfl
theorem Vw:au Tryz.prog 231=true:=by kernel_rfl
theorem VB:au Tryz.prog 232=true:=by kernel_rfl
theorem XI:au Tryz.prog 233=true:=by kernel_rfl
theorem MU:au Tryz.prog 234=true:=by kernel_rfl
theorem YP:au Tryz.prog 235=true:=by kernel_rfl
theorem QK:au Tryz.prog 236=true:=by kernel_rfl
theorem Tr:au Tryz.prog 237=true:=by kernel_rfl
theorem Km:au Tryz.prog 238=true:=by kernel_rfl
theorem RI:au Tryz.prog 239=true:=by kernel_rfl
theorem JD:au Tryz.prog 240=true:=by kernel_rfl
theorem Wj:au Tryz.prog 241=true:=by kernel_rfl
theorem JQ:au Tryz.prog 242=true:=by kernel_rfl
theorem Ik:au Tryz.prog 243=true:=by kernel_rfl
theorem FW:au Tryz.prog 244=true:=by kernel_rfl
theorem YF:au Tryz.prog 245=true:=by kernel_rfl
theorem QP:au Tryz.prog 246=true:=by kernel_rfl
theorem Jw:au Tryz.prog 247=true:=by kernel_rfl
theorem PO:au Tryz.prog 248=true:=by kernel_rfl
theorem DX:au Tryz.prog 249=true:=by kernel_rfl
theorem YT:au Tryz.prog 250=true:=by kernel_rfl
theorem RN:au Tryz.prog 251=true:=by kernel_rfl
theorem Qr:au Tryz.prog 252=true:=by kernel_rfl
theorem JF:au Tryz.prog 253=true:=by kernel_rfl
theorem Xo:au Tryz.prog 254=true:=by kernel_rfl
theorem LL:au Tryz.prog 255=true:=by kernel_rfl
theorem JR:au Tryz.prog 256=true:=by kernel_rfl
theorem LG:au Tryz.prog 257=true:=by kernel_rfl
theorem UO:au Tryz.prog 258=true:=by kernel_rfl
theorem NT:au Tryz.prog 259=true:=by kernel_rfl
theorem Il:eJ Tryz.prog 3=some [.v (.int .i64 0)]:=by kernel_rfl
theorem G0:eJ Tryz.prog 26=some [.aQ,.aQ,.aQ,.v (.int .i64 0),.v (.int .i64 0)]:=by kernel_rfl
theorem VK:eJ Tryz.prog 45=some [.v (.int .i64 0),.v (.int .i64 0)]:=by kernel_rfl
theorem SI:eJ Tryz.prog 49=some [.v (.string ⟨#[]⟩),.v (.string ⟨#[]⟩),.v (.int .i64 0),.v (.int .i64 0),.v (.bool false)]:=by kernel_rfl
theorem RT:eJ Tryz.prog 58=some [.aQ,.aQ,.v (.bool false),.v (.int .i64 0),.v (.int .i64 0)]:=by kernel_rfl
theorem HB:eJ Tryz.prog 63=some [.v (.string ⟨#[]⟩),.v (.string ⟨#[]⟩),.v (.int .i64 0),.v (.int .i64 0),.v (.int .i64 0),.v (.int .i64 0)]:=by kernel_rfl
theorem Te:eJ Tryz.prog 65=some [.v (.string ⟨#[]⟩),.v (.string ⟨#[]⟩),.v (.string ⟨#[]⟩),.v (.bool false),.v (.int .i64 0),.v (.int .i64 0),.v (.int .i64 0),.v (.bool false)]:=by kernel_rfl
theorem RQ:eJ Tryz.prog 69=some [.v (.string ⟨#[]⟩),.v (.string ⟨#[]⟩),.v (.string ⟨#[]⟩),.v (.string ⟨#[]⟩),.v (.string ⟨#[]⟩),.v (.int .i64 0),.v (.bool false),.v (.int .i64 0),.v (.int .i64 0),.v (.int .i64 0)]:=by kernel_rfl
theorem yj:eJ Tryz.prog 86=some [.aQ,.aQ,.aQ,.v (.int .i64 0),.v (.int .i64 0),.aQ,.v (.int .i64 0),.v (.bool false)]:=by kernel_rfl
theorem UU:eJ Tryz.prog 106=some [.v (.string ⟨#[]⟩),.v (.string ⟨#[]⟩),.v (.string ⟨#[]⟩),.v (.string ⟨#[]⟩),.v (.bool false),.v (.int .i64 0),.v (.int .i64 0),.v (.int .i64 0),.v (.bool false)]:=by kernel_rfl
theorem Kb:eJ Tryz.prog 169=some [.v (.int .i64 0),.v (.bool false),.v (.bool false),.v (.int .i64 0)]:=by kernel_rfl
theorem Kv:eJ Tryz.prog 176=some [.v (.string ⟨#[]⟩),.v (.string ⟨#[]⟩)]:=by kernel_rfl
theorem L9:eJ Tryz.prog 222=some [.v (.bool false),.v (.bool false),.v (.bool false),.v (.bool false),.v (.bool false)]:=by kernel_rfl
theorem Ov:eJ Tryz.prog 243=some [.v (.int .u64 0)]:=by kernel_rfl
theorem JK:jk Tryz.prog 26=some [(0,1),(1,1),(2,1),(3,1),(4,1)]:=by kernel_rfl
theorem U9:jk Tryz.prog 45=some [(0,1),(1,1)]:=by kernel_rfl
theorem QF:jk Tryz.prog 49=some [(0,1),(1,1),(2,1),(3,1),(4,1)]:=by kernel_rfl
theorem XD:jk Tryz.prog 58=some [(0,1),(1,1),(2,1),(3,1),(4,1)]:=by kernel_rfl
theorem Kf:jk Tryz.prog 63=some [(0,1),(1,1),(2,1),(3,1),(4,1),(5,1)]:=by kernel_rfl
theorem Nx:jk Tryz.prog 65=some [(0,1),(1,1),(2,1),(3,1),(4,1),(5,1),(6,1),(7,1)]:=by kernel_rfl
theorem EH:jk Tryz.prog 69=some [(0,1),(1,1),(2,1),(3,1),(4,1),(5,1),(6,1),(7,1),(8,1),(9,1)]:=by kernel_rfl
theorem VA:jk Tryz.prog 106=some [(0,1),(1,1),(2,1),(3,1),(4,1),(5,1),(6,1),(7,1),(8,1)]:=by kernel_rfl
theorem Vc:jk Tryz.prog 169=some [(0,1),(1,1),(2,1),(3,1)]:=by kernel_rfl
theorem Io:jk Tryz.prog 176=some [(0,1),(1,1)]:=by kernel_rfl
theorem O0:Tryz.prog.underlying 2=some (.int (Go.IntKind.i64)):=by kernel_rfl
theorem Ea:Tryz.prog.underlying 3=some (.int (Go.IntKind.i64)):=by kernel_rfl
theorem OO:Tryz.prog.underlying 4=some (.bool):=by kernel_rfl
theorem QN:Tryz.prog.underlying 5=some (.int (Go.IntKind.u8)):=by kernel_rfl
theorem GN:Tryz.prog.underlying 9=some (.string):=by kernel_rfl
theorem I6:Tryz.prog.underlying 22=some (.slice 65):=by kernel_rfl
theorem Wh:Tryz.prog.underlying 23=some (.slice 106):=by kernel_rfl
theorem SS:Tryz.prog.underlying 24=some (.slice 9):=by kernel_rfl
theorem XH:Tryz.prog.underlying 27=some (.slice 49):=by kernel_rfl
theorem Sz:Tryz.prog.underlying 31=some (.slice 27):=by kernel_rfl
theorem GY:Tryz.prog.underlying 32=some (.int (Go.IntKind.i64)):=by kernel_rfl
theorem E2:Tryz.prog.underlying 53=some (.int (Go.IntKind.u32)):=by kernel_rfl
theorem MJ:Tryz.prog.underlying 54=some (.int (Go.IntKind.u16)):=by kernel_rfl
theorem Gi:Tryz.prog.underlying 55=some (.slice 86):=by kernel_rfl
theorem LD:Tryz.prog.underlying 56=some (.slice 63):=by kernel_rfl
theorem LB:Tryz.prog.underlying 73=some (.slice 77):=by kernel_rfl
theorem L0:Tryz.prog.underlying 91=some (.slice 69):=by kernel_rfl
theorem ON:Tryz.prog.underlying 92=some (.slice 4):=by kernel_rfl
theorem XL:Tryz.prog.underlying 174=some (.slice 176):=by kernel_rfl
theorem DL:Tryz.prog.underlying 187=some (.slice 2):=by kernel_rfl
theorem VG:Tryz.prog.underlying 201=some (.int (Go.IntKind.u64)):=by kernel_rfl
theorem F7:Tryz.prog.underlying 205=some (.int (Go.IntKind.u64)):=by kernel_rfl
theorem OK:Tryz.prog.underlying 217=some (.slice 3):=by kernel_rfl
theorem TR:Tryz.prog.underlying 222=some (.array 5 4):=by kernel_rfl
theorem Sl:Tryz.prog.underlying 225=some (.int (Go.IntKind.i64)):=by kernel_rfl
theorem DD:Tryz.prog.underlying 243=some (.int (Go.IntKind.u64)):=by kernel_rfl
attribute [go_sem] MH Hl V3 LY Mj YI YX Wf JW MI Yx TB We EC Eb E5 Hz U1 VM Pf Ot FM UQ Xr NO Xu M9 PH EM Kp V1 ND TT X7 Kt W4 UY SQ Yp Hm EN Yr JP Ig JB Ev Qk Xm Jr KK U2 Tl Eg H5 FZ Ja Sp J5 Hh Mk MQ Tq LF E4 Ni NG FL NF JG DC VL Xp QY M7 Sv WZ DV OS Dl XX Hk F2 XT Ti Uk OF Hc Is Pr XW GO Xx Hs U8 Pk Mu Ii Vm Xe LK I0 Kn JC Mf X0 pY xK SZ BB E8 eN nh Cj XU NR JA EJ Me J3 SG Ih Yl HV H4 S0 HP Ee IQ Qp P2 Ix Gk D6 KX FQ Mi D0 J6 Qv tw Yq Fe yK SR jE zJ Rr Xa Kk SJ Oj PF W7 SV Rq NN GC NS Oh SE Ql UZ C4 H0 ML YO I8 Pg Fl Dm GS Ky It Fa Fk Hd MP Tz Wv F0 NQ MV D5 Vb Vi RM Vj Dz E0 Ou MX Qc Vx Ox Oi Fc R8 LR LZ GX JZ QU EX MS Vo Mr TC Dw Mo Lf F3 Vp QA TA M1 MZ RH Ko Dj Je QL Ec Pd LV SH WR OG O6 NK Xb LX Up Wa Ve F8 Tb P5 WW FO ES Xv Mh QZ JH OU VE TS Ye Jt KH UN Oy Fh YC GV OZ Wd KD Nt GB Ub H8 Nu M5 Pc Ma Ud XZ Qb Wn Pj I5 Tj Qy Xc RU XS J9 Ut Tw Qo Md Rj KI Py Dg C2 V2 GH Va Ew Y0 Jq V4 PX UX Tc RD QH P3 Xy PT Fo Kg Ns YD No Xq Oe DO XG TI RL XE Gj W5 HF Fx Fb Vh DF R2 UA Dk Lh Mx O2 Ta OM Hj Du KM NY GG Uc US Gf Gr HX Xn WU NP Jd Uh VJ Hb Jv Xg F9 Nd NC Ya Yb Rl Kx NZ OJ S7 Uq H9 I2 FR Vu PW Ux IW Us U3 NI Vw VB XI MU YP QK Tr Km RI JD Wj JQ Ik FW YF QP Jw PO DX YT RN Qr JF Xo LL JR LG UO NT Il G0 VK SI RT HB Te RQ yj UU Kb Kv L9 Ov JK U9 QF XD Kf Nx EH VA Vc Io O0 Ea OO QN GN I6 Wh SS XH Sz GY E2 MJ Gi LD LB L0 ON XL DL VG F7 OK TR Sl DD
end Go.Proofs.YtajeeghgiilhiaaGreat
end
section
namespace Go.Proofs.YtajeeghgiilhiaaGreat
open Go Go.Abs Go.RowKit Go.Bk
noncomputable def E:Env:={ P:=Tryz.prog,ok:=fun _=>True,mono:=fun _ _ _ h=>h,gl:=fun _=>none }
noncomputable def ED:Env:={ P:=Tryz.prog,ok:=fun _=>True,mono:=fun _ _ _ h=>h,gl:=fun _=>none,dr:=True }
@[go_sem] theorem ZP:ED.P=Tryz.prog:=rfl
@[go_sem] theorem aam:ED.gl=fun _=>none:=rfl
@[go_sem] theorem E_P:E.P=Tryz.prog:=rfl
@[go_sem] theorem Z5:E.gl=fun _=>none:=rfl
abbrev a8(o:Od):AV:= .agg [str o.id,str o.acc,str o.sym,bl o.az,i64 o.aq,i64 o.aA,i64 o.done,bl o.bq]
abbrev ar(x:Ex):AV:= .agg [str x.id,str x.ref,str x.ord,str x.acc,str x.sym,i64 x.kind,bl x.az,i64 x.aq,i64 x.aA,i64 x.time]
abbrev bY(f:Dn):AV:= .agg [str f.id,str f.ord,str f.acc,str f.sym,bl f.az,i64 f.aq,i64 f.aA,i64 f.time,bl f.live]
abbrev aV(l:List Od):AV:= .sl none 8 (l.map a8)
abbrev cg(l:List Dn):AV:= .sl none 9 (l.map bY)
theorem uU(s:Bs):∀x∈(AV.agg [str s]).leaves,x.dW=some x:=by
 intro x hx
 simp only[AV.leaves,List.mem_cons,List.not_mem_nil,or_false] at hx
 subst hx;rfl
theorem iO(l:List Od):∀e∈l.map a8,∀x∈e.leaves,x.dW=some x:=by
 intro e he x hx
 obtain⟨o,_,rfl⟩:=List.mem_map.1 he
 simp only[AV.leaves,List.mem_cons,List.not_mem_nil,or_false] at hx
 rcases hx with rfl|rfl|rfl|rfl|rfl|rfl|rfl|rfl<;>rfl
theorem qi(l:List Dn):∀e∈l.map bY,∀x∈e.leaves,x.dW=some x:=by
 intro e he x hx
 obtain⟨o,_,rfl⟩:=List.mem_map.1 he
 simp only[AV.leaves,List.mem_cons,List.not_mem_nil,or_false] at hx
 rcases hx with rfl|rfl|rfl|rfl|rfl|rfl|rfl|rfl|rfl<;>rfl
theorem FT(x:Ex):∀y∈(ar x).leaves,y.dW=some y:=by
 intro y hx
 simp only[AV.leaves,List.mem_cons,List.not_mem_nil,or_false] at hx
 rcases hx with rfl|rfl|rfl|rfl|rfl|rfl|rfl|rfl|rfl|rfl<;>rfl
theorem qH(l:List Od):∀e∈l.map a8,e.leaves.length=8∧∀y∈e.leaves,∃z,y= .v z:=by
 intro e he
 obtain⟨o,_,rfl⟩:=List.mem_map.1 he
 refine⟨rfl,fun x hx=>?_⟩
 simp only[AV.leaves,List.mem_cons,List.not_mem_nil,or_false] at hx
 rcases hx with rfl|rfl|rfl|rfl|rfl|rfl|rfl|rfl<;>exact⟨_,rfl⟩
theorem qF{l:List Od}{n:Nat}{o:Od}(h:l[n]?=some o)(sp:List AV):(l.map a8++sp)[n]?=some (a8 o):=by
 have hn:n<l.length:=by
  rcases Nat.lt_or_ge n l.length with h'|h'
  ·exact h'
  ·rw[List.getElem?_eq_none h'] at h;simp at h
 rw[List.getElem?_append_left (by simpa using hn),List.getElem?_map,h];rfl
theorem rR{l:List Od}{n:Nat}{o o':Od}(h:l[n]?=some o)(sp:List AV):(l.map a8++sp).set n (a8 o')=(l.set n o').map a8++sp:=by
 have hn:n<l.length:=by
  rcases Nat.lt_or_ge n l.length with h'|h'
  ·exact h'
  ·rw[List.getElem?_eq_none h'] at h;simp at h
 rw[List.set_append_left _ _ (by simpa using hn),List.map_set]
theorem Sd{o:Od}(h1:bw o=true)(h2:o.bq=true):IntKind.i64.wrap (o.aq-o.done)=dn o:=by
 have h:=h1
 simp only[bw,bS,Bool.and_eq_true,decide_eq_true_eq] at h
 rw[av ab ab]
 simp[dn,h1,h2]
theorem UF(n:Int):ai E 171 [i64 n] (fun r t=>r=bl (bS n)∧t=[]):=by
 refine ai.aw (n:=9) (rs:=[.tmp 2]) Tryz.func171 rfl Tryz.ntmps171 rfl ?_
 refine aa.aj fun K1 hK1=>?_
 refine aa.region ?_
 simp only[go_sem]
 refine hK1 _ ?_;clear hK1 K1
 refine aa.aj fun K2 hK2=>?_
 refine aa.region ?_
 simp only[go_sem]
 repeat'((refine aL.split (fun h=>?_) (fun h=>?_)<;>simp only[h,go_sem]<;>try simp only[dD] at h))
 all_goals(
  refine hK2 _ ?_;clear hK2 K2
  refine aa.ret ?_
  try simp only[go_sem]
  exact⟨[],.v _,rfl,rfl,by simp_all[bS]<;>omega,rfl⟩)
theorem My(n:Int):ai E 172 [i64 n] (fun r t=>r=bl (mq n)∧t=[]):=by
 refine ai.aw (n:=9) (rs:=[.tmp 2]) Tryz.func172 rfl Tryz.ntmps172 rfl ?_
 refine aa.aj fun K1 hK1=>?_
 refine aa.region ?_
 simp only[go_sem]
 refine hK1 _ ?_;clear hK1 K1
 refine aa.aj fun K2 hK2=>?_
 refine aa.region ?_
 simp only[go_sem]
 repeat'((refine aL.split (fun h=>?_) (fun h=>?_)<;>simp only[h,go_sem]<;>try simp only[dD] at h))
 all_goals(
  refine hK2 _ ?_;clear hK2 K2
  refine aa.ret ?_
  try simp only[go_sem]
  exact⟨[],.v _,rfl,rfl,by simp_all[mq]<;>omega,rfl⟩)
theorem Nq(s:Bs):ai E 150 [str s] (fun r t=>r=bl (iC s)∧t=[]):=by
 refine ai.aw (n:=10) (rs:=[.tmp 2]) Tryz.func150 rfl Tryz.ntmps150 rfl ?_
 refine aa.aj fun K1 hK1=>?_
 refine aa.region ?_
 simp only[go_sem]
 refine hK1 _ ?_;clear hK1 K1
 refine aa.aj fun K2 hK2=>?_
 refine aa.region ?_
 simp only[go_sem]
 repeat'((refine aL.cc (fun h=>?_) (fun h=>?_)<;>simp only[h,go_sem]<;>try simp only[dD] at h))
 all_goals(
  refine hK2 _ ?_;clear hK2 K2
  refine aa.ret ?_
  try simp only[go_sem]
  exact⟨[],.v _,rfl,rfl,by simp_all[iC]<;>omega,rfl⟩)
theorem w3(n:Int):ai E 151 [i64 n] (fun r t=>r=bl (bS n)∧t=[]):=by
 refine ai.aw (n:=9) (rs:=[.tmp 2]) Tryz.func151 rfl Tryz.ntmps151 rfl ?_
 refine aa.aj fun K1 hK1=>?_
 refine aa.region ?_
 simp only[go_sem]
 refine hK1 _ ?_;clear hK1 K1
 refine aa.aj fun K2 hK2=>?_
 refine aa.region ?_
 simp only[go_sem]
 repeat'((refine aL.split (fun h=>?_) (fun h=>?_)<;>simp only[h,go_sem]<;>try simp only[dD] at h))
 all_goals(
  refine hK2 _ ?_;clear hK2 K2
  refine aa.ret ?_
  try simp only[go_sem]
  exact⟨[],.v _,rfl,rfl,by simp_all[bS]<;>omega,rfl⟩)
theorem tc(n:Int):ai E 101 [i64 n] (fun r t=>r=bl (bS n)∧t=[]):=by
 refine ai.aw (n:=9) (rs:=[.tmp 2]) Tryz.func101 rfl Tryz.ntmps101 rfl ?_
 refine aa.aj fun K1 hK1=>?_
 refine aa.region ?_
 simp only[go_sem]
 refine hK1 _ ?_;clear hK1 K1
 refine aa.aj fun K2 hK2=>?_
 refine aa.region ?_
 simp only[go_sem]
 repeat'((refine aL.split (fun h=>?_) (fun h=>?_)<;>simp only[h,go_sem]<;>try simp only[dD] at h))
 all_goals(
  refine hK2 _ ?_;clear hK2 K2
  refine aa.ret ?_
  try simp only[go_sem]
  exact⟨[],.v _,rfl,rfl,by simp_all[bS]<;>omega,rfl⟩)
theorem Mb(s:Bs):ai E 170 [str s] (fun r t=>r=bl (fF s)∧t=[]):=by
 refine ai.aw (n:=45) (rs:=[.tmp 2]) Tryz.func170 rfl Tryz.ntmps170 rfl ?_
 refine aa.aj fun K1 hK1=>?_
 refine aa.region ?_
 simp only[go_sem]
 refine hK1 _ ?_;clear hK1 K1
 refine aa.aj fun K2 hK2=>?_
 refine aa.aj fun K3 hK3=>?_
 refine aa.region ?_
 simp only[go_sem]
 repeat'((refine aL.cc (fun h=>?_) (fun h=>?_)<;>simp only[h,go_sem]<;>try simp only[dD] at h))
 all_goals(
  refine hK3 _ ?_;clear hK3 K3
  refine aa.cond rfl (fun c12=>?_) (fun c12=>?_)
  ·(
    try simp only[dD] at c12
    refine aa.aj fun K4 hK4=>?_
    refine aa.region ?_
    simp only[go_sem]
    refine hK4 _ ?_;clear hK4 K4
    refine aa.ret ?_
    try simp only[go_sem]
    clear hK2 K2
    (exact⟨[],.v _,rfl,rfl,congrArg bl (xw ab).symm,rfl⟩))
  ·first|exact Bool.noConfusion c12|(
    try simp only[dD] at c12
    refine aa.skip ?_
    refine hK2 _ ?_;clear hK2 K2
    refine aa.aj fun K5 hK5=>?_
    refine aa.aj fun K6 hK6=>?_
    refine aa.region ?_
    simp only[go_sem]
    refine hK6 _ ?_;clear hK6 K6
    refine aa.block ?_
    refine aa.nI (ι:=Nat) [2,3,4,16,17,18,19,20,21,22,23,24,25,26,27,28,29,30,31,32,33,34,35,36,37,38,39,40,41,42,43,44] (fun(i:Nat)=>[(15,i64 i)]) (fun(i:Nat)=>i≤s.length∧s.length≤16∧(s.take i).all isName=true) (fun(i:Nat)=>s.length-i) (0) ?_ ?_ ?_
    ·(try simp only[go_sem]);try(simp;done)
    ·exact⟨by omega,by omega,by simp⟩
    rintro i ⟨h1,h2,h3⟩
    simp only[go_sem]
    refine aa.aj fun K7 hK7=>?_
    refine aa.region ?_
    simp only[go_sem]
    refine hK7 _ ?_;clear hK7 K7
    refine aa.aj fun K8 hK8=>?_
    refine aa.cond rfl (fun c16=>?_) (fun c16=>?_)
    ·(
      try simp only[dD] at c16
      refine aa.skip ?_
      refine hK8 _ ?_;clear hK8 K8
      refine aa.aj fun K9 hK9=>?_
      refine aa.block ?_
      refine aa.aj fun K10 hK10=>?_
      refine aa.region ?_
      simp only[go_sem]
      refine hK10 _ ?_;clear hK10 K10
      refine aa.aj fun K11 hK11=>?_
      refine aa.region ?_
      simp only[go_sem]
      repeat'(((refine aM.oU ?_ (fun b hb=>?_));(focus((omega)));(try simp only[hb,go_sem])))
      refine hK11 _ ?_;clear hK11 K11
      refine aa.aj fun K12 hK12=>?_
      refine aa.region ?_
      simp only[go_sem]
      repeat'(first|(refine aL.cc (fun h=>?_) (fun h=>?_)<;>simp only[h,go_sem]<;>try simp only[dD] at h)|(refine aL.split (fun h=>?_) (fun h=>?_)<;>simp only[h,go_sem]<;>try simp only[dD] at h))
      all_goals(
       refine hK12 _ ?_;clear hK12 K12
       refine aa.cond rfl (fun c43=>?_) (fun c43=>?_)
       ·first|exact Bool.noConfusion c43|(
         try simp only[dD] at c43
         refine aa.aj fun K13 hK13=>?_
         refine aa.region ?_
         simp only[go_sem]
         refine hK13 _ ?_;clear hK13 K13
         refine aa.ret ?_
         try simp only[go_sem]
         clear hK9 K9 hK5 K5
         first
         |exact⟨[],.v _,rfl,rfl,congrArg bl (xw ab).symm,rfl⟩
         |exact⟨[],.v _,rfl,rfl,congrArg bl (xb hb (by simp only[isName];simp;omega)).symm,rfl⟩)
       ·first|exact Bool.noConfusion c43|(
         try simp only[dD] at c43
         refine aa.skip ?_
         refine hK9 _ ?_;clear hK9 K9
         refine aa.region ?_
         simp only[go_sem]
         clear hK5 K5
         refine⟨i+1,?_,?_,?_⟩
         ·(try simp only[go_sem]);(try rw[av ab ab]);simp
         ·exact⟨by omega,by omega,kR hb h3 (by simp only[isName];simp;omega)⟩
         ·omega)))
    ·(
      try simp only[dD] at c16
      refine aa.exit ?_
      simp only[go_sem]
      clear hK8 K8
      refine hK5 _ ?_;clear hK5 K5
      refine aa.aj fun K14 hK14=>?_
      refine aa.region ?_
      simp only[go_sem]
      refine hK14 _ ?_;clear hK14 K14
      refine aa.ret ?_
      try simp only[go_sem]
      (exact⟨[],.v _,rfl,rfl,congrArg bl (Oz ab ab h3).symm,rfl⟩))))
theorem mz(o:Od):ai E 79 [a8 o] (fun r t=>r=bl (bw o)∧t=[]):=by
 refine ai.aw (n:=38) (rs:=[.tmp 2]) Tryz.func79 rfl Tryz.ntmps79 rfl ?_
 refine aa.aj fun K1 hK1=>?_
 refine aa.region ?_
 simp only[go_sem]
 refine hK1 _ ?_;clear hK1 K1
 refine aa.aj fun K2 hK2=>?_
 refine aa.region ?_
 simp only[go_sem]
 repeat'(first|(refine ah.one (Nq _) af rfl ?_;simp only[go_sem])|(refine ah.one (w3 _) af rfl ?_;simp only[go_sem])|(refine aL.split (fun h=>?_) (fun h=>?_)<;>simp only[h,go_sem]<;>try simp only[dD] at h))
 all_goals(
  refine hK2 _ ?_;clear hK2 K2
  refine aa.ret ?_
  try simp only[go_sem]
  exact⟨[],.v _,rfl,rfl,by(simp_all[bw]<;>(intros;omega)),rfl⟩)
theorem yn(o:Od):ai E 111 [a8 o] (fun r t=>r=i64 (dn o)∧t=[]):=by
 refine ai.aw (n:=16) (rs:=[.tmp 2]) Tryz.func111 rfl Tryz.ntmps111 rfl ?_
 refine aa.aj fun K1 hK1=>?_
 refine aa.region ?_
 simp only[go_sem]
 refine hK1 _ ?_;clear hK1 K1
 refine aa.aj fun K2 hK2=>?_
 refine aa.aj fun K3 hK3=>?_
 refine aa.region ?_
 simp only[go_sem]
 repeat'(first|(refine ah.one (mz _) af rfl ?_;simp only[go_sem])|(refine aL.split (fun h=>?_) (fun h=>?_)<;>simp only[h,go_sem]<;>try simp only[dD] at h))
 all_goals(
  refine hK3 _ ?_;clear hK3 K3
  refine aa.cond rfl (fun c10=>?_) (fun c10=>?_)
  ·(
    try simp only[dD] at c10
    refine aa.aj fun K4 hK4=>?_
    refine aa.region ?_
    simp only[go_sem]
    refine hK4 _ ?_;clear hK4 K4
    refine aa.ret ?_
    try simp only[go_sem]
    clear hK2 K2
    exact⟨[],.v _,rfl,rfl,by((simp_all[dn];done)),rfl⟩)
  ·first|exact Bool.noConfusion c10|(
    try simp only[dD] at c10
    refine aa.skip ?_
    refine hK2 _ ?_;clear hK2 K2
    refine aa.aj fun K5 hK5=>?_
    refine aa.region ?_
    simp only[go_sem]
    refine hK5 _ ?_;clear hK5 K5
    refine aa.ret ?_
    try simp only[go_sem]
    exact⟨[],.v _,rfl,rfl,by((rw[Sd ae ae])),rfl⟩))
theorem S2(o:Od)(p:Int):ai E 255 [a8 o,i64 p] (fun r t=>r=bl (eD o p)∧t=[]):=by
 refine ai.aw (n:=18) (rs:=[.tmp 4]) Tryz.func255 rfl Tryz.ntmps255 rfl ?_
 refine aa.aj fun K1 hK1=>?_
 refine aa.region ?_
 simp only[go_sem]
 refine hK1 _ ?_;clear hK1 K1
 refine aa.aj fun K2 hK2=>?_
 refine aa.aj fun K3 hK3=>?_
 refine aa.region ?_
 simp only[go_sem]
 repeat'((refine ah.one (w3 _) af rfl ?_;simp only[go_sem]))
 refine hK3 _ ?_;clear hK3 K3
 refine aa.cond rfl (fun c7=>?_) (fun c7=>?_)
 ·(
   try simp only[dD] at c7
   refine aa.aj fun K4 hK4=>?_
   refine aa.region ?_
   simp only[go_sem]
   refine hK4 _ ?_;clear hK4 K4
   refine aa.ret ?_
   try simp only[go_sem]
   clear hK2 K2
   exact⟨[],.v _,rfl,rfl,by simp_all[eD],rfl⟩)
 ·(
   try simp only[dD] at c7
   refine aa.skip ?_
   refine hK2 _ ?_;clear hK2 K2
   refine aa.aj fun K5 hK5=>?_
   refine aa.aj fun K6 hK6=>?_
   refine aa.region ?_
   simp only[go_sem]
   refine hK6 _ ?_;clear hK6 K6
   refine aa.cond rfl (fun c9=>?_) (fun c9=>?_)
   ·(
     try simp only[dD] at c9
     refine aa.aj fun K7 hK7=>?_
     refine aa.region ?_
     simp only[go_sem]
     refine hK7 _ ?_;clear hK7 K7
     refine aa.ret ?_
     try simp only[go_sem]
     clear hK5 K5
     exact⟨[],.v _,rfl,rfl,by simp_all[eD],rfl⟩)
   ·(
     try simp only[dD] at c9
     refine aa.skip ?_
     refine hK5 _ ?_;clear hK5 K5
     refine aa.aj fun K8 hK8=>?_
     refine aa.region ?_
     simp only[go_sem]
     refine hK8 _ ?_;clear hK8 K8
     refine aa.ret ?_
     try simp only[go_sem]
     exact⟨[],.v _,rfl,rfl,by simp_all[eD],rfl⟩))
theorem HE(o:Od)(b:Bool)(p:Int):ai E 235 [a8 o,bl b,i64 p] (fun r t=>r=bl (eD { o with az:=b } p)∧t=[]):=by
 refine ai.aw (n:=24) (rs:=[.tmp 6]) Tryz.func235 rfl Tryz.ntmps235 rfl ?_
 refine aa.aj fun K1 hK1=>?_
 refine aa.region ?_
 simp only[go_sem]
 refine hK1 _ ?_;clear hK1 K1
 refine aa.aj fun K2 hK2=>?_
 refine aa.aj fun K3 hK3=>?_
 refine aa.region ?_
 simp only[go_sem]
 refine hK3 _ ?_;clear hK3 K3
 refine aa.cond rfl (fun c7=>?_) (fun c7=>?_)
 ·(
   try simp only[dD] at c7
   refine aa.aj fun K4 hK4=>?_
   refine aa.region ?_
   simp only[go_sem]
   repeat'(first|(refine ah.one (tc _) af rfl ?_;simp only[go_sem])|(refine aL.split (fun h=>?_) (fun h=>?_)<;>simp only[h,go_sem]<;>try simp only[dD] at h))
   all_goals(
    refine hK4 _ ?_;clear hK4 K4
    refine aa.ret ?_
    try simp only[go_sem]
    clear hK2 K2
    exact⟨[],.v _,rfl,rfl,by simp_all[eD],rfl⟩))
 ·(
   try simp only[dD] at c7
   refine aa.skip ?_
   refine hK2 _ ?_;clear hK2 K2
   refine aa.aj fun K5 hK5=>?_
   refine aa.region ?_
   simp only[go_sem]
   repeat'(first|(refine ah.one (tc _) af rfl ?_;simp only[go_sem])|(refine aL.split (fun h=>?_) (fun h=>?_)<;>simp only[h,go_sem]<;>try simp only[dD] at h))
   all_goals(
    refine hK5 _ ?_;clear hK5 K5
    refine aa.ret ?_
    try simp only[go_sem]
    exact⟨[],.v _,rfl,rfl,by simp_all[eD],rfl⟩))
theorem I4(o:Od)(id:Bs):ai E 195 [a8 o,.bV [str id]] (fun r t=>r=bl (decide (o.id=id))∧t=[]):=by
 refine ai.aw (n:=8) (rs:=[.tmp 3]) Tryz.func195 rfl Tryz.ntmps195 rfl ?_
 refine aa.aj fun K1 hK1=>?_
 refine aa.region ?_
 simp only[go_sem]
 refine hK1 _ ?_;clear hK1 K1
 refine aa.aj fun K2 hK2=>?_
 refine aa.region ?_
 simp only[go_sem]
 refine hK2 _ ?_;clear hK2 K2
 refine aa.ret ?_
 try simp only[go_sem]
 exact⟨[],.v _,rfl,rfl,by simp_all,rfl⟩
theorem Nf(l:List Od)(id:Bs)(hl:l.length≤9223372036854775807):ai E 154 [aV l,.fn 195 [.bV [str id]]] (fun r t=>r=i64 (bW l id)∧t=[]):=by
 refine ai.aw (n:=19) (rs:=[.tmp 4]) Tryz.func154 rfl Tryz.ntmps154 rfl ?_
 refine aa.aj fun K1 hK1=>?_
 refine aa.region ?_
 simp only[go_sem]
 refine hK1 _ ?_;clear hK1 K1
 refine aa.aj fun K2 hK2=>?_
 refine aa.aj fun K3 hK3=>?_
 refine aa.region ?_
 simp only[go_sem]
 repeat'(((with_reducible refine And.intro ?_ ?_);(focus(((simp;done))));(try simp only[hb,go_sem])))
 refine hK3 _ ?_;clear hK3 K3
 refine aa.block ?_
 refine aa.nI (ι:=Nat) [4,5,9,10,11,12,13,14,15,16,17,18] (fun(i:Nat)=>[(8,i64 i)]) (fun(i:Nat)=>i≤l.length∧(l.take i).all (fun o=>!decide (o.id=id))=true) (fun(i:Nat)=>l.length-i) (0) ?_ ?_ ?_
 ·(try simp only[go_sem]);try(simp;done)
 ·exact⟨by omega,by simp⟩
 rintro i ⟨h1,h2⟩
 simp only[go_sem]
 refine aa.aj fun K4 hK4=>?_
 refine aa.region ?_
 simp only[go_sem]
 refine hK4 _ ?_;clear hK4 K4
 refine aa.aj fun K5 hK5=>?_
 refine aa.cond rfl (fun c9=>?_) (fun c9=>?_)
 ·(
   try simp only[dD] at c9
   refine aa.skip ?_
   refine hK5 _ ?_;clear hK5 K5
   refine aa.aj fun K6 hK6=>?_
   refine aa.block ?_
   refine aa.aj fun K7 hK7=>?_
   refine aa.region ?_
   simp only[go_sem]
   refine hK7 _ ?_;clear hK7 K7
   refine aa.aj fun K8 hK8=>?_
   refine aa.region ?_
   simp only[go_sem]
   repeat'(first|(refine ah.one (I4 _ _) af rfl ?_;simp only[go_sem])|((refine aM.nth ?_ (fun b hb=>?_));(focus((omega)));(try simp only[hb,go_sem])))
   refine hK8 _ ?_;clear hK8 K8
   refine aa.cond rfl (fun c16=>?_) (fun c16=>?_)
   ·(
     try simp only[dD] at c16
     refine aa.aj fun K9 hK9=>?_
     refine aa.region ?_
     simp only[go_sem]
     refine hK9 _ ?_;clear hK9 K9
     refine aa.ret ?_
     try simp only[go_sem]
     clear hK6 K6 hK2 K2
     (exact⟨[],.v _,rfl,rfl,by rw[GA hb ae h2],rfl⟩))
   ·(
     try simp only[dD] at c16
     refine aa.skip ?_
     refine hK6 _ ?_;clear hK6 K6
     refine aa.region ?_
     simp only[go_sem]
     clear hK2 K2
     refine⟨i+1,?_,?_,?_⟩
     ·(try simp only[go_sem]);(try rw[av ab ab]);simp
     ·exact⟨by omega,kR hb h2 (by simp;assumption)⟩
     ·omega))
 ·(
   try simp only[dD] at c9
   refine aa.exit ?_
   simp only[go_sem]
   clear hK5 K5
   refine hK2 _ ?_;clear hK2 K2
   refine aa.aj fun K10 hK10=>?_
   refine aa.region ?_
   simp only[go_sem]
   refine hK10 _ ?_;clear hK10 K10
   refine aa.ret ?_
   try simp only[go_sem]
   (exact⟨[],.v _,rfl,rfl,by rw[Fq ab h2],rfl⟩))
theorem pn(l:List Od)(id:Bs)(hl:l.length≤9223372036854775807):ai E 163 [aV l,str id] (fun r t=>r=i64 (bW l id)∧t=[]):=by
 refine ai.aw (n:=8) (rs:=[.tmp 4]) Tryz.func163 rfl Tryz.ntmps163 rfl ?_
 refine aa.aj fun K1 hK1=>?_
 refine aa.region ?_
 simp only[go_sem]
 refine hK1 _ ?_;clear hK1 K1
 refine aa.aj fun K2 hK2=>?_
 refine aa.region ?_
 simp only[go_sem]
 repeat'((refine ah.fZ (Nf l id hl) af rfl (.cons (.one (.clean rfl)) (.cons (.fn (.cons (.ptr (e:= .agg [str id]) rfl (uU id)) .nil)) .nil)) ?_;simp only[go_sem]))
 refine hK2 _ ?_;clear hK2 K2
 refine aa.ret ?_
 try simp only[go_sem]
 exact⟨[],.v _,rfl,rfl,rfl,rfl⟩
theorem mn(l:List Od)(hl:l.length≤9223372036854775807):ai E 97 [aV l] (fun r t=>r=bl (bd l)∧t=[]):=by
 refine ai.aw (n:=28) (rs:=[.tmp 2]) Tryz.func97 rfl Tryz.ntmps97 rfl ?_
 refine aa.aj fun K1 hK1=>?_
 refine aa.region ?_
 simp only[go_sem]
 refine hK1 _ ?_;clear hK1 K1
 refine aa.aj fun K2 hK2=>?_
 refine aa.aj fun K3 hK3=>?_
 refine aa.region ?_
 simp only[go_sem]
 repeat'(((with_reducible refine And.intro ?_ ?_);(focus(((simp;done))));(try simp only[hb,go_sem])))
 refine hK3 _ ?_;clear hK3 K3
 refine aa.cond rfl (fun c7=>?_) (fun c7=>?_)
 ·(
   try simp only[dD] at c7
   refine aa.aj fun K4 hK4=>?_
   refine aa.region ?_
   simp only[go_sem]
   refine hK4 _ ?_;clear hK4 K4
   refine aa.ret ?_
   try simp only[go_sem]
   clear hK2 K2
   (exact⟨[],.v _,rfl,rfl,by rw[zn ab],rfl⟩))
 ·(
   try simp only[dD] at c7
   refine aa.skip ?_
   refine hK2 _ ?_;clear hK2 K2
   refine aa.aj fun K5 hK5=>?_
   refine aa.aj fun K6 hK6=>?_
   refine aa.region ?_
   simp only[go_sem]
   repeat'(((with_reducible refine And.intro ?_ ?_);(focus(((simp;done))));(try simp only[hb,go_sem])))
   refine hK6 _ ?_;clear hK6 K6
   refine aa.block ?_
   refine aa.nI (ι:=Nat) [2,3,4,11,12,13,14,15,16,17,18,19,20,21,22,23,24,25,26,27] (fun(i:Nat)=>[(10,i64 i)]) (fun(i:Nat)=>i≤l.length∧l.length≤64∧jz l i=true) (fun(i:Nat)=>l.length-i) (0) ?_ ?_ ?_
   ·(try simp only[go_sem]);try(simp;done)
   ·exact⟨by omega,by omega,rfl⟩
   rintro i ⟨h1,h2,h3⟩
   simp only[go_sem]
   refine aa.aj fun K7 hK7=>?_
   refine aa.region ?_
   simp only[go_sem]
   refine hK7 _ ?_;clear hK7 K7
   refine aa.aj fun K8 hK8=>?_
   refine aa.cond rfl (fun c11=>?_) (fun c11=>?_)
   ·(
     try simp only[dD] at c11
     refine aa.skip ?_
     refine hK8 _ ?_;clear hK8 K8
     refine aa.aj fun K9 hK9=>?_
     refine aa.block ?_
     refine aa.aj fun K10 hK10=>?_
     refine aa.region ?_
     simp only[go_sem]
     repeat'(((refine aM.nth ?_ (fun b hb=>?_));(focus((omega)));(try simp only[hb,go_sem])))
     refine hK10 _ ?_;clear hK10 K10
     refine aa.aj fun K11 hK11=>?_
     refine aa.bf [0,1,2,3,4,5,6,7,8,9,10,11] [] af af rfl ?_
     simp only[go_sem]
     repeat'(first|(refine ah.one (mz _) af rfl ?_;simp only[go_sem])|(refine ah.one (pn _ _ (by first|omega|(simp only[List.length_take];omega))) af rfl ?_;simp only[go_sem])|(refine aL.split (fun h=>?_) (fun h=>?_)<;>simp only[h,go_sem]<;>try simp only[dD] at h)|((with_reducible refine And.intro ?_ ?_);(focus((omega)));(try simp only[hb,go_sem])))
     all_goals(
      refine hK11 _ ?_;clear hK11 K11
      refine aa.cond rfl (fun iq=>?_) (fun iq=>?_)
      ·(
        try simp only[dD] at iq
        refine aa.aj fun K12 hK12=>?_
        refine aa.region ?_
        simp only[go_sem]
        refine hK12 _ ?_;clear hK12 K12
        refine aa.ret ?_
        try simp only[go_sem]
        clear hK9 K9 hK5 K5
        first
        |exact⟨[],.v _,rfl,rfl,by rw[rS ab (CT hb ae)],rfl⟩
        |exact⟨[],.v _,rfl,rfl,by rw[rS ab (Vy hb ae)],rfl⟩)
      ·first|exact Bool.noConfusion iq|(
        try simp only[dD] at iq
        refine aa.skip ?_
        refine hK9 _ ?_;clear hK9 K9
        refine aa.region ?_
        simp only[go_sem]
        clear hK5 K5
        refine⟨i+1,?_,?_,?_⟩
        ·(try simp only[go_sem]);(try rw[av ab ab]);simp
        ·exact⟨by omega,by omega,wM h3 (E1 hb ae ae)⟩
        ·omega)))
   ·(
     try simp only[dD] at c11
     refine aa.exit ?_
     simp only[go_sem]
     clear hK8 K8
     refine hK5 _ ?_;clear hK5 K5
     refine aa.aj fun K13 hK13=>?_
     refine aa.region ?_
     simp only[go_sem]
     refine hK13 _ ?_;clear hK13 K13
     refine aa.ret ?_
     try simp only[go_sem]
     (exact⟨[],.v _,rfl,rfl,by rw[xB h2 ab h3],rfl⟩)))
theorem gM{r:List Od×Int}{e:Int}(h:r.2=e)(he:e≠0):∃x,AV.aC [.any,i64 e]= .aC [x,i64 r.2]∧(r.2=0→x=aV r.1):=⟨.any,by rw[h],fun h0=>absurd (h.symm.trans h0) he⟩
theorem lg{r:List Od×Int}{l:List Od}(h:r=(l,0)):∃x,AV.aC [aV l,i64 0]= .aC [x,i64 r.2]∧(r.2=0→x=aV r.1):=⟨aV l,by rw[h],fun _=>by rw[h]⟩
theorem ux(l:List Od)(id:Bs)(hl:l.length≤9223372036854775807):ai E 238 [aV l,str id] (fun r t=>r=i64 (gx l id)∧t=[]):=by
 refine ai.aw (n:=20) (rs:=[.tmp 4]) Tryz.func238 rfl Tryz.ntmps238 rfl ?_
 refine aa.aj fun K1 hK1=>?_
 refine aa.region ?_
 simp only[go_sem]
 refine hK1 _ ?_;clear hK1 K1
 refine aa.aj fun K2 hK2=>?_
 refine aa.region ?_
 simp only[go_sem]
 repeat'((refine ah.one (pn _ _ (by(omega))) af rfl ?_;simp only[go_sem]))
 refine hK2 _ ?_;clear hK2 K2
 refine aa.aj fun K3 hK3=>?_
 refine aa.aj fun K4 hK4=>?_
 rcases jl l id with⟨e,e2⟩|⟨n,o,e,e2,hb⟩<;>simp only[e]
 all_goals(
  refine aa.region ?_
  simp only[go_sem]
  repeat'((refine aM.bG ae ?_;(try simp only[go_sem])))
  all_goals(
   refine hK4 _ ?_;clear hK4 K4
   refine aa.cond rfl (fun c18=>?_) (fun c18=>?_)
   ·first|exact Bool.noConfusion c18|(
     try simp only[dD] at c18
     refine aa.aj fun K5 hK5=>?_
     refine aa.region ?_
     simp only[go_sem]
     refine hK5 _ ?_;clear hK5 K5
     refine aa.ret ?_
     try simp only[go_sem]
     clear hK3 K3
     (exact⟨[],.v _,rfl,rfl,by rw[Ty e hb ae],rfl⟩))
   ·(
     try simp only[dD] at c18
     refine aa.skip ?_
     refine hK3 _ ?_;clear hK3 K3
     refine aa.aj fun K6 hK6=>?_
     refine aa.region ?_
     simp only[go_sem]
     refine hK6 _ ?_;clear hK6 K6
     refine aa.ret ?_
     try simp only[go_sem]
     first
     |exact⟨[],.v _,rfl,rfl,by rw[WI e hb ae],rfl⟩
     |exact⟨[],.v _,rfl,rfl,by rw[RA ab,e],rfl⟩)))
theorem rh(l:List Od)(id:Bs)(hl:l.length≤9223372036854775807):ai E 157 [aV l,str id] (fun r t=>r= .aC [a8 (findF l id).1,bl (findF l id).2]∧t=[]):=by
 refine ai.aw (n:=21) (rs:=[.cell 4 65,.tmp 5]) Tryz.func157 rfl Tryz.ntmps157 rfl ?_
 refine aa.aj fun K1 hK1=>?_
 refine aa.region ?_
 simp only[go_sem]
 refine hK1 _ ?_;clear hK1 K1
 refine aa.aj fun K2 hK2=>?_
 refine aa.aj fun K3 hK3=>?_
 refine aa.region ?_
 simp only[go_sem]
 repeat'((refine ah.one (mn _ ab) af rfl ?_;simp only[go_sem]))
 refine hK3 _ ?_;clear hK3 K3
 refine aa.cond rfl (fun c9=>?_) (fun c9=>?_)
 ·(
   try simp only[dD] at c9
   refine aa.aj fun K4 hK4=>?_
   refine aa.region ?_
   simp only[go_sem]
   refine hK4 _ ?_;clear hK4 K4
   refine aa.ret ?_
   try simp only[go_sem]
   clear hK2 K2
   (exact⟨[],.aC [a8 eW,.v _],rfl,⟨⟨rfl,rfl,rfl,rfl,rfl,rfl,rfl,rfl,trivial⟩,rfl,trivial⟩,by rw[L7 ae],rfl⟩))
 ·(
   try simp only[dD] at c9
   refine aa.skip ?_
   refine hK2 _ ?_;clear hK2 K2
   refine aa.aj fun K5 hK5=>?_
   refine aa.region ?_
   simp only[go_sem]
   repeat'((refine ah.one (pn _ _ (by(omega))) af rfl ?_;simp only[go_sem]))
   refine hK5 _ ?_;clear hK5 K5
   refine aa.aj fun K6 hK6=>?_
   refine aa.aj fun K7 hK7=>?_
   refine aa.region ?_
   simp only[go_sem]
   refine hK7 _ ?_;clear hK7 K7
   refine aa.cond rfl (fun c15=>?_) (fun c15=>?_)
   ·(
     try simp only[dD] at c15
     refine aa.aj fun K8 hK8=>?_
     refine aa.region ?_
     simp only[go_sem]
     refine hK8 _ ?_;clear hK8 K8
     refine aa.ret ?_
     try simp only[go_sem]
     clear hK6 K6
     (exact⟨[],.aC [a8 eW,.v _],rfl,⟨⟨rfl,rfl,rfl,rfl,rfl,rfl,rfl,rfl,trivial⟩,rfl,trivial⟩,by rw[xW ae ab],rfl⟩))
   ·(
     try simp only[dD] at c15
     refine aa.skip ?_
     refine hK6 _ ?_;clear hK6 K6
     refine aa.aj fun K9 hK9=>?_
     obtain⟨n,o,e,e2,hb⟩:∃n o,bW l id=(n:Nat)∧b7 l id=some n∧l[n]?=some o:=by
      rcases jl l id with⟨e,e2⟩|h
      ·exact absurd (show bW l id<0 by omega) ae
      ·exact h
     simp only[e]
     refine aa.region ?_
     simp only[go_sem]
     repeat'((refine aM.bG ae ?_;(try simp only[go_sem])))
     refine hK9 _ ?_;clear hK9 K9
     refine aa.ret ?_
     try simp only[go_sem]
     (exact⟨[],.aC [a8 o,.v _],rfl,⟨⟨rfl,rfl,rfl,rfl,rfl,rfl,rfl,rfl,trivial⟩,rfl,trivial⟩,by rw[uO ae e hb],rfl⟩)))
theorem mv(l:List Od)(hl:l.length≤1000000):ai E 126 [aV l] (fun r t=>r= .sl (some 0) 8 (l.map a8)∧t=[l.length]):=by
 refine ai.aw (n:=8) (rs:=[.tmp 2]) Tryz.func126 rfl Tryz.ntmps126 rfl ?_
 refine aa.aj fun K1 hK1=>?_
 refine aa.region ?_
 simp only[go_sem]
 refine hK1 _ ?_;clear hK1 K1
 refine aa.aj fun K2 hK2=>?_
 refine aa.aj fun K3 hK3=>?_
 refine aa.region ?_
 simp only[go_sem]
 repeat'(((with_reducible refine And.intro ?_ ?_);(focus(((simp;done))));(try simp only[hb,go_sem])))
 intro bb hbb
 refine hK3 _ ?_;clear hK3 K3
 refine aa.cond rfl (fun c4=>?_) (fun c4=>?_)
 ·(
   try simp only[dD] at c4
   refine aa.aj fun K4 hK4=>?_
   refine aa.region ?_
   simp only[go_sem]
   refine hK4 _ ?_;clear hK4 K4
   refine aa.ret ?_
   try simp only[go_sem]
   clear hK2 K2
   first
   |(have he:l=[]:=by
      apply Classical.byContradiction;intro hne
      have:=hbb (by simpa using hne)
      rw[this] at c4;exact absurd c4 aD
     exact⟨[(false,8)],.sl (some 0) 8 [],rfl,rfl,by rw[he];rfl,by rw[he];rfl⟩))
 ·(
   try simp only[dD] at c4
   refine aa.skip ?_
   refine hK2 _ ?_;clear hK2 K2
   refine aa.aj fun K5 hK5=>?_
   refine aa.region ?_
   simp only[go_sem]
   repeat'(((with_reducible refine And.intro ?_ ?_);(focus((omega)));(try simp only[hb,go_sem])))
   refine hK5 _ ?_;clear hK5 K5
   refine aa.ret ?_
   try simp only[go_sem]
   (exact⟨[(true,0)],.sl (some 0) 8 _,rfl,⟨rfl,rfl,rfl⟩,by simp,by simp[gG]⟩))
theorem EG(l:List Od)(o:Od)(hl:l.length≤1000000):ai E 208 [aV l,a8 o] (fun r t=>(∃x,r= .aC [x,i64 (cN l o).2]∧((cN l o).2=0→x=aV (cN l o).1))∧t=[]):=by
 refine ai.aw (n:=36) (rs:=[.tmp 4,.tmp 5]) Tryz.func208 rfl Tryz.ntmps208 rfl ?_
 refine aa.aj fun K1 hK1=>?_
 refine aa.region ?_
 simp only[go_sem]
 refine hK1 _ ?_;clear hK1 K1
 refine aa.aj fun K2 hK2=>?_
 refine aa.region ?_
 simp only[go_sem]
 repeat'((refine ah.of (mv l hl) af rfl ?_;rintro r t ⟨rfl,rfl⟩<;>simp only[go_sem]))
 refine hK2 _ ?_;clear hK2 K2
 refine aa.aj fun K3 hK3=>?_
 refine aa.region ?_
 simp only[go_sem]
 refine hK3 _ ?_;clear hK3 K3
 refine aa.aj fun K4 hK4=>?_
 refine aa.region ?_
 simp only[go_sem]
 refine hK4 _ ?_;clear hK4 K4
 refine aa.aj fun K5 hK5=>?_
 refine aa.block ?_
 refine aa.aj fun K6 hK6=>?_
 refine aa.region ?_
 simp only[go_sem]
 repeat'(first|(refine ah.one (mn _ ab) af rfl ?_;simp only[go_sem])|(refine ah.one (mz ⟨o.id,o.acc,o.sym,o.az,o.aq,o.aA,0,true⟩) af rfl ?_;simp only[go_sem])|(refine aL.split (fun h=>?_) (fun h=>?_)<;>simp only[h,go_sem]<;>try simp only[dD] at h))
 all_goals(
  refine hK6 _ ?_;clear hK6 K6
  refine aa.cond rfl (fun c10=>?_) (fun c10=>?_)
  ·(
    try simp only[dD] at c10
    refine aa.aj fun K7 hK7=>?_
    refine aa.region ?_
    simp only[go_sem]
    refine hK7 _ ?_;clear hK7 K7
    refine aa.ret ?_
    try simp only[go_sem]
    clear hK5 K5
    first
    |exact⟨[],.aC [.any,.v _],rfl,⟨trivial,rfl,trivial⟩,gM (Bb ae) ay,rfl⟩
    |exact⟨[],.aC [.any,.v _],rfl,⟨trivial,rfl,trivial⟩,gM (yM ae) ay,rfl⟩)
  ·first|exact Bool.noConfusion c10|(
    try simp only[dD] at c10
    refine aa.aj fun K8 hK8=>?_
    refine aa.region ?_
    simp only[go_sem]
    repeat'((refine ah.one (pn _ _ (by(omega))) af rfl ?_;simp only[go_sem]))
    refine hK8 _ ?_;clear hK8 K8
    refine aa.cond rfl (fun c20=>?_) (fun c20=>?_)
    ·(
      try simp only[dD] at c20
      refine aa.aj fun K9 hK9=>?_
      refine aa.region ?_
      simp only[go_sem]
      refine hK9 _ ?_;clear hK9 K9
      refine aa.ret ?_
      try simp only[go_sem]
      clear hK5 K5
      (exact⟨[],.aC [.any,.v _],rfl,⟨trivial,rfl,trivial⟩,gM (zj ae ae ae) ay,rfl⟩))
    ·(
      try simp only[dD] at c20
      refine aa.aj fun K10 hK10=>?_
      refine aa.region ?_
      simp only[go_sem]
      repeat'(((with_reducible refine And.intro ?_ ?_);(focus(((simp;done))));(try simp only[hb,go_sem])))
      refine hK10 _ ?_;clear hK10 K10
      refine aa.cond rfl (fun c27=>?_) (fun c27=>?_)
      ·(
        try simp only[dD] at c27
        refine aa.aj fun K11 hK11=>?_
        refine aa.region ?_
        simp only[go_sem]
        refine hK11 _ ?_;clear hK11 K11
        refine aa.ret ?_
        try simp only[go_sem]
        clear hK5 K5
        (exact⟨[],.aC [.any,.v _],rfl,⟨trivial,rfl,trivial⟩,gM (Bt ae ae ae ab) ay,rfl⟩))
      ·(
        try simp only[dD] at c27
        refine aa.skip ?_
        refine hK5 _ ?_;clear hK5 K5
        refine aa.aj fun K12 hK12=>?_
        refine aa.region ?_
        simp only[go_sem]
        repeat'(((with_reducible refine And.intro ?_ ?_);(focus((omega)));(try simp only[hb,go_sem])))
        refine hK12 _ ?_;clear hK12 K12
        refine aa.ret ?_
        try simp only[go_sem]
        (exact⟨[],.aC [.sl none 8 _,.v _],rfl,⟨⟨rfl,by rw[List.map_append];rfl⟩,rfl,trivial⟩,lg (yB ae ae ae ab),rfl⟩)))))
theorem FA(l:List Od)(id:Bs)(hl:l.length≤1000000):ai E 212 [aV l,str id] (fun r t=>(∃x,r= .aC [x,i64 (dE l id).2]∧((dE l id).2=0→x=aV (dE l id).1))∧t=[]):=by
 refine ai.aw (n:=24) (rs:=[.tmp 4,.tmp 5]) Tryz.func212 rfl Tryz.ntmps212 rfl ?_
 refine aa.aj fun K1 hK1=>?_
 refine aa.region ?_
 simp only[go_sem]
 refine hK1 _ ?_;clear hK1 K1
 refine aa.aj fun K2 hK2=>?_
 refine aa.region ?_
 simp only[go_sem]
 repeat'((refine ah.take (mv l hl) af rfl (.cons (.one (.clean rfl)) .nil) ?_;rintro r t ⟨rfl,rfl⟩;refine⟨0,8,_,rfl,by simp,qH _,fun m=>?_⟩;simp only[go_sem,List.length_map]))
 refine hK2 _ ?_;clear hK2 K2
 refine aa.aj fun K3 hK3=>?_
 refine aa.aj fun K4 hK4=>?_
 refine aa.region ?_
 simp only[go_sem]
 repeat'((refine ah.fZ (mn l ab) af rfl (.cons (.one (.jy rfl aD (iO l))) .nil) ?_;simp only[go_sem]))
 refine hK4 _ ?_;clear hK4 K4
 refine aa.cond rfl (fun c11=>?_) (fun c11=>?_)
 ·(
   try simp only[dD] at c11
   refine aa.aj fun K5 hK5=>?_
   refine aa.region ?_
   simp only[go_sem]
   refine hK5 _ ?_;clear hK5 K5
   refine aa.ret ?_
   try simp only[go_sem]
   clear hK3 K3
   (exact⟨[],.aC [.any,.v _],rfl,⟨trivial,rfl,trivial⟩,gM (Da ae) ay,rfl⟩))
 ·(
   try simp only[dD] at c11
   refine aa.skip ?_
   refine hK3 _ ?_;clear hK3 K3
   refine aa.aj fun K6 hK6=>?_
   refine aa.region ?_
   simp only[go_sem]
   repeat'((refine ah.fZ (ux l _ ab) af rfl (.cons (.one (.jy rfl aD (iO l))) (.cons (.one (.clean rfl)) .nil)) ?_;simp only[go_sem]))
   refine hK6 _ ?_;clear hK6 K6
   refine aa.aj fun K7 hK7=>?_
   refine aa.aj fun K8 hK8=>?_
   refine aa.region ?_
   simp only[go_sem]
   refine hK8 _ ?_;clear hK8 K8
   refine aa.cond rfl (fun c17=>?_) (fun c17=>?_)
   ·(
     try simp only[dD] at c17
     refine aa.aj fun K9 hK9=>?_
     refine aa.region ?_
     simp only[go_sem]
     refine hK9 _ ?_;clear hK9 K9
     refine aa.ret ?_
     try simp only[go_sem]
     clear hK7 K7
     (exact⟨[],.aC [.any,.v _],rfl,⟨trivial,rfl,trivial⟩,gM (Wg ae (pR ae)) ay,rfl⟩))
   ·(
     try simp only[dD] at c17
     refine aa.skip ?_
     refine hK7 _ ?_;clear hK7 K7
     refine aa.aj fun K10 hK10=>?_
     obtain⟨n,o,e,e2,hb,ho⟩:∃n o,gx l id=(n:Nat)∧cP l id=some n∧l[n]?=some o∧o.bq=true:=by
      rcases ry l id with⟨e,e2⟩|h
      ·exact absurd (show gx l id<0 by omega) ae
      ·exact h
     simp only[e]
     have hn:n<l.length:=bM hb
     have hg:=qF hb (spare 8 m)
     refine aa.region ?_
     simp only[go_sem,hg]
     repeat'(((with_reducible refine And.intro ?_ ?_);(focus((omega)));(try simp only[hb,go_sem,hg])))
     refine hK10 _ ?_;clear hK10 K10
     refine aa.aj fun K11 hK11=>?_
     refine aa.mb 0 0 8 l.length _ ((l.set n ⟨o.id,o.acc,o.sym,o.az,o.aq,o.aA,o.done,false⟩).map a8) (spare 8 m) rfl (congrArg (fun x=>some (some x)) (rR (o':=⟨o.id,o.acc,o.sym,o.az,o.aq,o.aA,o.done,false⟩) hb (spare 8 m))) aD (iO _) ?_
     simp only[go_sem]
     refine aa.region ?_
     simp only[go_sem]
     refine hK11 _ ?_;clear hK11 K11
     refine aa.ret ?_
     try simp only[go_sem]
     (exact⟨[],.aC [.sl none 8 _,.v _],rfl,⟨⟨rfl,rfl⟩,rfl,trivial⟩,lg (zc ae e2 hb),rfl⟩)))
theorem F5(l:List Od)(id:Bs)(q p:Int)(hq:q≤4611686018427387904)(hl:l.length≤1000000):ai E 236 [aV l,str id,i64 q,i64 p] (fun r t=>(∃x,r= .aC [x,i64 (cp l id q p).2]∧((cp l id q p).2=0→x=aV (cp l id q p).1))∧t=[]):=by
 refine ai.aw (n:=68) (rs:=[.tmp 8,.tmp 9]) Tryz.func236 rfl Tryz.ntmps236 rfl ?_
 refine aa.aj fun K1 hK1=>?_
 refine aa.region ?_
 simp only[go_sem]
 refine hK1 _ ?_;clear hK1 K1
 refine aa.aj fun K2 hK2=>?_
 refine aa.region ?_
 simp only[go_sem]
 repeat'((refine ah.take (mv l hl) af rfl (.cons (.one (.clean rfl)) .nil) ?_;rintro r t ⟨rfl,rfl⟩;refine⟨0,8,_,rfl,by simp,qH _,fun m=>?_⟩;simp only[go_sem,List.length_map]))
 refine hK2 _ ?_;clear hK2 K2
 refine aa.aj fun K3 hK3=>?_
 refine aa.aj fun K4 hK4=>?_
 refine aa.region ?_
 simp only[go_sem]
 repeat'((refine ah.fZ (mn l ab) af rfl (.cons (.one (.jy rfl aD (iO l))) .nil) ?_;simp only[go_sem]))
 refine hK4 _ ?_;clear hK4 K4
 refine aa.cond rfl (fun c15=>?_) (fun c15=>?_)
 ·(
   try simp only[dD] at c15
   refine aa.aj fun K5 hK5=>?_
   refine aa.region ?_
   simp only[go_sem]
   refine hK5 _ ?_;clear hK5 K5
   refine aa.ret ?_
   try simp only[go_sem]
   clear hK3 K3
   (exact⟨[],.aC [.any,.v _],rfl,⟨trivial,rfl,trivial⟩,gM (Bu ae) ay,rfl⟩))
 ·(
   try simp only[dD] at c15
   refine aa.skip ?_
   refine hK3 _ ?_;clear hK3 K3
   refine aa.aj fun K6 hK6=>?_
   refine aa.region ?_
   simp only[go_sem]
   repeat'((refine ah.fZ (ux l _ ab) af rfl (.cons (.one (.jy rfl aD (iO l))) (.cons (.one (.clean rfl)) .nil)) ?_;simp only[go_sem]))
   refine hK6 _ ?_;clear hK6 K6
   refine aa.aj fun K7 hK7=>?_
   refine aa.aj fun K8 hK8=>?_
   refine aa.region ?_
   simp only[go_sem]
   refine hK8 _ ?_;clear hK8 K8
   refine aa.cond rfl (fun c21=>?_) (fun c21=>?_)
   ·(
     try simp only[dD] at c21
     refine aa.aj fun K9 hK9=>?_
     refine aa.region ?_
     simp only[go_sem]
     refine hK9 _ ?_;clear hK9 K9
     refine aa.ret ?_
     try simp only[go_sem]
     clear hK7 K7
     (exact⟨[],.aC [.any,.v _],rfl,⟨trivial,rfl,trivial⟩,gM (ua ae (pR ae)) ay,rfl⟩))
   ·(
     try simp only[dD] at c21
     refine aa.skip ?_
     refine hK7 _ ?_;clear hK7 K7
     refine aa.aj fun K10 hK10=>?_
     refine aa.aj fun K11 hK11=>?_
     obtain⟨n,o,e,e2,hb,ho⟩:∃n o,gx l id=(n:Nat)∧cP l id=some n∧l[n]?=some o∧o.bq=true:=by
      rcases ry l id with⟨e,e2⟩|h
      ·exact absurd (show gx l id<0 by omega) ae
      ·exact h
     simp only[e]
     have hn:n<l.length:=bM hb
     have hg:=qF hb (spare 8 m)
     refine aa.region ?_
     simp only[go_sem,hg]
     repeat'(first|(refine ah.one (yn _) af rfl ?_;simp only[go_sem,hg])|(refine aL.cc (fun h=>?_) (fun h=>?_)<;>simp only[h,go_sem,hg]<;>try simp only[dD] at h)|((with_reducible refine And.intro ?_ ?_);(focus((omega)));(try simp only[hb,go_sem,hg])))
     all_goals(
      refine hK11 _ ?_;clear hK11 K11
      refine aa.cond rfl (fun c33=>?_) (fun c33=>?_)
      ·(
        try simp only[dD] at c33
        refine aa.aj fun K12 hK12=>?_
        refine aa.region ?_
        simp only[go_sem]
        refine hK12 _ ?_;clear hK12 K12
        refine aa.ret ?_
        try simp only[go_sem]
        clear hK10 K10
        first
        |exact⟨[],.aC [.any,.v _],rfl,⟨trivial,rfl,trivial⟩,gM (qu ae e2 hb (.inl ae)) ay,rfl⟩
        |exact⟨[],.aC [.any,.v _],rfl,⟨trivial,rfl,trivial⟩,gM (qu ae e2 hb (.inr ae)) ay,rfl⟩)
      ·first|exact Bool.noConfusion c33|(
        try simp only[dD] at c33
        refine aa.skip ?_
        refine hK10 _ ?_;clear hK10 K10
        refine aa.aj fun K13 hK13=>?_
        refine aa.aj fun K14 hK14=>?_
        refine aa.region ?_
        simp only[go_sem,hg]
        repeat'(first|(refine ah.one (S2 _ _) af rfl ?_;simp only[go_sem,hg])|((with_reducible refine And.intro ?_ ?_);(focus((omega)));(try simp only[hb,go_sem,hg])))
        refine hK14 _ ?_;clear hK14 K14
        refine aa.cond rfl (fun c41=>?_) (fun c41=>?_)
        ·(
          try simp only[dD] at c41
          refine aa.aj fun K15 hK15=>?_
          refine aa.region ?_
          simp only[go_sem]
          refine hK15 _ ?_;clear hK15 K15
          refine aa.ret ?_
          try simp only[go_sem]
          clear hK13 K13
          (exact⟨[],.aC [.any,.v _],rfl,⟨trivial,rfl,trivial⟩,gM (wU ae e2 hb ae ae ae) ay,rfl⟩))
        ·(
          try simp only[dD] at c41
          refine aa.skip ?_
          refine hK13 _ ?_;clear hK13 K13
          refine aa.aj fun K16 hK16=>?_
          have hroom:=zB (lU ae hb) ae ae
          have hw:IntKind.i64.wrap (o.done+q)=o.done+q:=av ab ab
          refine aa.region ?_
          simp only[go_sem,hg]
          repeat'(((with_reducible refine And.intro ?_ ?_);(focus((omega)));(try simp only[hb,go_sem,hg])))
          refine hK16 _ ?_;clear hK16 K16
          refine aa.aj fun K17 hK17=>?_
          rw[hw]
          rw[rR (o':=⟨o.id,o.acc,o.sym,o.az,o.aq,o.aA,o.done+q,o.bq⟩) hb (spare 8 m)]
          have hb2:(l.set n ⟨o.id,o.acc,o.sym,o.az,o.aq,o.aA,o.done+q,o.bq⟩)[n]?=some ⟨o.id,o.acc,o.sym,o.az,o.aq,o.aA,o.done+q,o.bq⟩:=List.getElem?_set_self hn
          have hg2:=qF hb2 (spare 8 m)
          refine aa.bf [0,1,2,3,4,5,6,7,8,9,10,11,12,13,14,15] [] af af rfl ?_
          simp only[go_sem,hg2]
          repeat'(((with_reducible refine And.intro ?_ ?_);(focus((omega)));(try simp only[hb,go_sem,hg2])))
          refine hK17 _ ?_;clear hK17 K17
          refine aa.aj fun K18 hK18=>?_
          refine aa.mb 0 0 8 l.length _ (((l.set n ⟨o.id,o.acc,o.sym,o.az,o.aq,o.aA,o.done+q,o.bq⟩).set n ⟨o.id,o.acc,o.sym,o.az,o.aq,o.aA,o.done+q,decide (o.done+q<o.aq)⟩).map a8) (spare 8 m) rfl (congrArg (fun x=>some (some x)) (rR (o':=⟨o.id,o.acc,o.sym,o.az,o.aq,o.aA,o.done+q,decide (o.done+q<o.aq)⟩) hb2 (spare 8 m))) aD (iO _) ?_
          simp only[go_sem]
          refine aa.region ?_
          simp only[go_sem]
          refine hK18 _ ?_;clear hK18 K18
          refine aa.ret ?_
          try simp only[go_sem]
          (exact⟨[],.aC [.sl none 8 _,.v _],rfl,⟨⟨rfl,by rw[List.set_set]⟩,rfl,trivial⟩,lg (lN ae e2 hb ae ae ae),rfl⟩))))))
theorem YA{l:List Od}{n:Nat}{o:Od}(sp:List AV):((l.set n o).map a8++sp).take l.length=(l.set n o).map a8:=by
 rw[List.take_left' aD]
theorem YE(l:List Od)(a b:Bs)(q p:Int)(hl:l.length≤1000000):ai E 237 [aV l,str a,str b,i64 q,i64 p] (fun r t=>(∃x,r= .aC [x,i64 (cm l a b q p).2]∧((cm l a b q p).2=0→x=aV (cm l a b q p).1))∧t=[]):=by
 refine ai.aw (n:=66) (rs:=[.tmp 10,.tmp 11]) Tryz.func237 rfl Tryz.ntmps237 rfl ?_
 refine aa.aj fun K1 hK1=>?_
 refine aa.region ?_
 simp only[go_sem]
 refine hK1 _ ?_;clear hK1 K1
 refine aa.aj fun K2 hK2=>?_
 refine aa.region ?_
 simp only[go_sem]
 repeat'((refine ah.take (mv l hl) af rfl (.cons (.one (.clean rfl)) .nil) ?_;rintro r t ⟨rfl,rfl⟩;refine⟨0,8,_,rfl,by simp,qH _,fun m=>?_⟩;simp only[go_sem,List.length_map]))
 refine hK2 _ ?_;clear hK2 K2
 refine aa.aj fun K3 hK3=>?_
 refine aa.aj fun K4 hK4=>?_
 refine aa.region ?_
 simp only[go_sem]
 repeat'((refine ah.fZ (mn l ab) af rfl (.cons (.one (.jy rfl aD (iO l))) .nil) ?_;simp only[go_sem]))
 refine hK4 _ ?_;clear hK4 K4
 refine aa.cond rfl (fun c18=>?_) (fun c18=>?_)
 ·(
   try simp only[dD] at c18
   refine aa.aj fun K5 hK5=>?_
   refine aa.region ?_
   simp only[go_sem]
   refine hK5 _ ?_;clear hK5 K5
   refine aa.ret ?_
   try simp only[go_sem]
   clear hK3 K3
   (exact⟨[],.aC [.any,.v _],rfl,⟨trivial,rfl,trivial⟩,gM (rO ae) ay,rfl⟩))
 ·(
   try simp only[dD] at c18
   refine aa.skip ?_
   refine hK3 _ ?_;clear hK3 K3
   refine aa.aj fun K6 hK6=>?_
   refine aa.region ?_
   simp only[go_sem]
   repeat'((refine ah.fZ (ux l _ ab) af rfl (.cons (.one (.jy rfl aD (iO l))) (.cons (.one (.clean rfl)) .nil)) ?_;simp only[go_sem]))
   refine hK6 _ ?_;clear hK6 K6
   refine aa.aj fun K7 hK7=>?_
   refine aa.aj fun K8 hK8=>?_
   refine aa.region ?_
   simp only[go_sem]
   refine hK8 _ ?_;clear hK8 K8
   refine aa.cond rfl (fun c24=>?_) (fun c24=>?_)
   ·(
     try simp only[dD] at c24
     refine aa.aj fun K9 hK9=>?_
     refine aa.region ?_
     simp only[go_sem]
     refine hK9 _ ?_;clear hK9 K9
     refine aa.ret ?_
     try simp only[go_sem]
     clear hK7 K7
     (exact⟨[],.aC [.any,.v _],rfl,⟨trivial,rfl,trivial⟩,gM (pb ae (pR ae)) ay,rfl⟩))
   ·(
     try simp only[dD] at c24
     refine aa.skip ?_
     refine hK7 _ ?_;clear hK7 K7
     refine aa.aj fun K10 hK10=>?_
     obtain⟨n,o,e,e2,hb,ho⟩:∃n o,gx l a=(n:Nat)∧cP l a=some n∧l[n]?=some o∧o.bq=true:=by
      rcases ry l a with⟨e,e2⟩|h
      ·exact absurd (show gx l a<0 by omega) ae
      ·exact h
     simp only[e]
     have hn:n<l.length:=bM hb
     have hg:=qF hb (spare 8 m)
     refine aa.region ?_
     simp only[go_sem,hg]
     repeat'(((with_reducible refine And.intro ?_ ?_);(focus((omega)));(try simp only[hb,go_sem,hg])))
     refine hK10 _ ?_;clear hK10 K10
     refine aa.aj fun K11 hK11=>?_
     refine aa.region ?_
     simp only[go_sem]
     refine hK11 _ ?_;clear hK11 K11
     refine aa.aj fun K12 hK12=>?_
     refine aa.region ?_
     simp only[go_sem]
     refine hK12 _ ?_;clear hK12 K12
     refine aa.aj fun K13 hK13=>?_
     refine aa.block ?_
     refine aa.aj fun K14 hK14=>?_
     refine aa.region ?_
     simp only[go_sem]
     repeat'((refine ah.one (mz (⟨b,o.acc,o.sym,o.az,q,p,o.done,decide (o.done<q)⟩:Od)) af rfl ?_;simp only[go_sem]))
     refine hK14 _ ?_;clear hK14 K14
     refine aa.cond rfl (fun c42=>?_) (fun c42=>?_)
     ·(
       try simp only[dD] at c42
       refine aa.aj fun K15 hK15=>?_
       refine aa.region ?_
       simp only[go_sem]
       refine hK15 _ ?_;clear hK15 K15
       refine aa.ret ?_
       try simp only[go_sem]
       clear hK13 K13
       (exact⟨[],.aC [.any,.v _],rfl,⟨trivial,rfl,trivial⟩,gM (y5 ae e2 hb ae) ay,rfl⟩))
     ·(
       try simp only[dD] at c42
       refine aa.aj fun K16 hK16=>?_
       refine aa.region ?_
       simp only[go_sem]
       repeat'((refine ah.fZ (pn l _ ab) af rfl (.cons (.one (.jy rfl aD (iO l))) (.cons (.one (.clean rfl)) .nil)) ?_;simp only[go_sem]))
       refine hK16 _ ?_;clear hK16 K16
       refine aa.cond rfl (fun c47=>?_) (fun c47=>?_)
       ·(
         try simp only[dD] at c47
         refine aa.aj fun K17 hK17=>?_
         refine aa.region ?_
         simp only[go_sem]
         refine hK17 _ ?_;clear hK17 K17
         refine aa.ret ?_
         try simp only[go_sem]
         clear hK13 K13
         (exact⟨[],.aC [.any,.v _],rfl,⟨trivial,rfl,trivial⟩,gM (qw ae e2 hb ae ae) ay,rfl⟩))
       ·(
         try simp only[dD] at c47
         refine aa.aj fun K18 hK18=>?_
         refine aa.region ?_
         simp only[go_sem]
         repeat'(((with_reducible refine And.intro ?_ ?_);(focus(((simp;done))));(try simp only[hb,go_sem])))
         refine hK18 _ ?_;clear hK18 K18
         refine aa.cond rfl (fun c53=>?_) (fun c53=>?_)
         ·(
           try simp only[dD] at c53
           refine aa.aj fun K19 hK19=>?_
           refine aa.region ?_
           simp only[go_sem]
           refine hK19 _ ?_;clear hK19 K19
           refine aa.ret ?_
           try simp only[go_sem]
           clear hK13 K13
           (exact⟨[],.aC [.any,.v _],rfl,⟨trivial,rfl,trivial⟩,gM (w7 ae e2 hb ae ae ab) ay,rfl⟩))
         ·(
           try simp only[dD] at c53
           refine aa.skip ?_
           refine hK13 _ ?_;clear hK13 K13
           refine aa.aj fun K20 hK20=>?_
           refine aa.region ?_
           simp only[go_sem]
           repeat'(first|(refine aM.gj ae ?_;(try simp only[go_sem]))|((with_reducible refine And.intro ?_ ?_);(focus((omega)));(try simp only[hb,go_sem])))
           refine hK20 _ ?_;clear hK20 K20
           refine aa.aj fun K21 hK21=>?_
           have hrl:=l8 (l:=l) ae
           rw[rR (o':=⟨o.id,o.acc,o.sym,o.az,o.aq,o.aA,o.done,false⟩) hb (spare 8 m)]
           refine aa.region ?_
           simp only[go_sem]
           repeat'(((with_reducible refine And.intro ?_ ?_);(focus((first|omega|(simp;done)|(simp[cJ];done))));(try simp only[hb,go_sem])))
           intro m2
           simp only[go_sem,YA]
           refine hK21 _ ?_;clear hK21 K21
           refine aa.mb 10 2 8 (l.length+1) _ ((l.set n ⟨o.id,o.acc,o.sym,o.az,o.aq,o.aA,o.done,false⟩++[(⟨b,o.acc,o.sym,o.az,q,p,o.done,decide (o.done<q)⟩:Od)]).map a8) (spare 8 m2) rfl (by simp only[List.map_append];rfl) aD (iO _) ?_
           simp only[go_sem]
           refine aa.ret ?_
           try simp only[go_sem]
           (exact⟨[],.aC [.sl none 8 _,.v _],rfl,⟨⟨rfl,rfl⟩,rfl,trivial⟩,lg (zP ae e2 hb ae ae ab),rfl⟩))))))
end Go.Proofs.YtajeeghgiilhiaaGreat
end
